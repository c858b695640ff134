/- The document's Put. -/
import Derived.Test.YteoalcmhdoopnaaDoorItRef2
namespace Go.Proofs.YteoalcmhdoopnaaDoor
open Go.RowKit

set_option maxRecDepth 100000 in
set_option maxHeartbeats 3200000 in
theorem rput_text (t : ByteArray) (a : Option Addr) (n cap : Nat) (name s : ByteArray) (w : World) :
    Calls Tryd.prog 23 #[.agg #[.int .i64 1, .string t, .slice a n cap], .string name, .string s] w fun e w' => e = .returned (.tuple #[.agg #[.int .i64 1, .string t, .slice a n cap], .bool false, .int .i64 91]) ∧ Below w.heap.size w w' := by
  obtain ⟨k, hk⟩ : ∃ k : Int, k = 1 := ⟨_, rfl⟩
  rw [← hk]
  obtain ⟨W2, hW2⟩ : ∃ W2, W2 = (w.alloc (.cells #[.int .i64 k, .string t, .slice a n cap] 24)).alloc (.cells #[.int .i64 0, .string ⟨#[]⟩, .slice none 0 0] 24) := ⟨_, rfl⟩
  have hb2 : Below w.heap.size w W2 := by rw [hW2]; exact ((Below.refl _ _).alloc (Nat.le_refl _) _).alloc (by simp) _
  have hs2 : W2.heap.size = w.heap.size + 2 := by rw [hW2]; simp
  have hB : ∀ q u, #[.int .i64 k, .string t, .slice a n cap][q]? = some u → W2.cell? ⟨w.heap.size, q, none⟩ = some u := fun q u h => by rw [hW2, World.cell?_alloc_past _ _ _ (by simp), World.cell?_alloc_new]; exact h
  have hC : ∀ q u, #[.int .i64 0, .string ⟨#[]⟩, .slice none 0 0][q]? = some u → W2.cell? ⟨w.heap.size + 1, q, none⟩ = some u := fun q u h => by
    rw [hW2, show w.heap.size + 1 = (w.alloc (.cells #[.int .i64 k, .string t, .slice a n cap] 24)).heap.size by simp, World.cell?_alloc_new]; exact h
  have hfC : Blk W2 (w.heap.size + 1) := by rw [hW2, show w.heap.size + 1 = (w.alloc (.cells #[.int .i64 k, .string t, .slice a n cap] 24)).heap.size by simp]; exact Blk.new _ _ _
  have g0 : W2.cell? ⟨w.heap.size, 0, none⟩ = some (.int .i64 k) := hB 0 _ rfl
  have g1 : W2.cell? ⟨w.heap.size, 1, none⟩ = some (.string t) := hB 1 _ rfl
  have g2 : W2.cell? ⟨w.heap.size, 2, none⟩ = some (.slice a n cap) := hB 2 _ rfl
  have i0 : W2.cell? ⟨w.heap.size + 1, 0, none⟩ = some (.int .i64 0) := hC 0 _ rfl
  have i1 : W2.cell? ⟨w.heap.size + 1, 1, none⟩ = some (.string ⟨#[]⟩) := hC 1 _ rfl
  have i2 : W2.cell? ⟨w.heap.size + 1, 2, none⟩ = some (.slice none 0 0) := hC 2 _ rfl
  have y0 := hfC.frz 0 none
  have y1 := hfC.frz 1 none
  have y2 := hfC.frz 2 none
  replace hW2 := Lib.hid hW2
  clear hB hC
  have hfin := set3 hb2
  have hk1 : (k == 1) = true := by simpa using hk
  replace hfin := Lib.hid hfin
  replace hk := Lib.hid hk
  go_enter Tryd.func23, Tryd.ntmps23
  go_upto_region 1 with fail
  rw [← hW2.out]
  go_wp2_with fail
  refine bodyPost_ret (v := .tuple #[.agg #[.int .i64 k, .string t, .slice a n cap], .bool false, .int .i64 91]) (by simp [results, Tryd.results23, go_sem, i0, i1, i2]) rfl ⟨rfl, hfin.out _ _ _⟩

set_option maxRecDepth 100000 in
set_option maxHeartbeats 6400000 in
theorem rput_big (k : Int) (t : ByteArray) (a : Option Addr) (n cap : Nat) (fs : List Fld) (name s : ByteArray) (w : World) (hk : k ≠ 1) (hr : RF w a n cap fs) (hs : Srt fs) (hn : n ≤ 100000) (hbig : TooBig fs name s) :
    Calls Tryd.prog 23 #[.agg #[.int .i64 k, .string t, .slice a n cap], .string name, .string s] w fun e w' => e = .returned (.tuple #[.agg #[.int .i64 k, .string t, .slice a n cap], .bool false, .int .i64 94]) ∧ Below w.heap.size w w' := by
  have hl := hr.len
  have hk1 : (k == 1) = false := by simpa using hk
  obtain ⟨W2, hW2⟩ : ∃ W2, W2 = (w.alloc (.cells #[.int .i64 k, .string t, .slice a n cap] 24)).alloc (.cells #[.int .i64 0, .string ⟨#[]⟩, .slice none 0 0] 24) := ⟨_, rfl⟩
  have hb2 : Below w.heap.size w W2 := by rw [hW2]; exact ((Below.refl _ _).alloc (Nat.le_refl _) _).alloc (by simp) _
  have hs2 : W2.heap.size = w.heap.size + 2 := by rw [hW2]; simp
  have hB : ∀ q u, #[.int .i64 k, .string t, .slice a n cap][q]? = some u → W2.cell? ⟨w.heap.size, q, none⟩ = some u := fun q u h => by rw [hW2, World.cell?_alloc_past _ _ _ (by simp), World.cell?_alloc_new]; exact h
  have hC : ∀ q u, #[.int .i64 0, .string ⟨#[]⟩, .slice none 0 0][q]? = some u → W2.cell? ⟨w.heap.size + 1, q, none⟩ = some u := fun q u h => by
    rw [hW2, show w.heap.size + 1 = (w.alloc (.cells #[.int .i64 k, .string t, .slice a n cap] 24)).heap.size by simp, World.cell?_alloc_new]; exact h
  have hfC : Blk W2 (w.heap.size + 1) := by rw [hW2, show w.heap.size + 1 = (w.alloc (.cells #[.int .i64 k, .string t, .slice a n cap] 24)).heap.size by simp]; exact Blk.new _ _ _
  have g0 : W2.cell? ⟨w.heap.size, 0, none⟩ = some (.int .i64 k) := hB 0 _ rfl
  have g1 : W2.cell? ⟨w.heap.size, 1, none⟩ = some (.string t) := hB 1 _ rfl
  have g2 : W2.cell? ⟨w.heap.size, 2, none⟩ = some (.slice a n cap) := hB 2 _ rfl
  have i0 : W2.cell? ⟨w.heap.size + 1, 0, none⟩ = some (.int .i64 0) := hC 0 _ rfl
  have i1 : W2.cell? ⟨w.heap.size + 1, 1, none⟩ = some (.string ⟨#[]⟩) := hC 1 _ rfl
  have i2 : W2.cell? ⟨w.heap.size + 1, 2, none⟩ = some (.slice none 0 0) := hC 2 _ rfl
  have y0 := hfC.frz 0 none
  have y1 := hfC.frz 1 none
  have y2 := hfC.frz 2 none
  replace hW2 := Lib.hid hW2
  clear hB hC
  have hr2 := hr.below hb2
  have hget := rget_any k t a n cap fs name W2 hk hr2 hn
  obtain ⟨T, hT⟩ : ∃ T, T = (getF fs name).getD ⟨#[]⟩ := ⟨_, rfl⟩
  obtain ⟨H, hH⟩ : ∃ H, H = hasF fs name := ⟨_, rfl⟩
  rw [← hT, ← hH] at hget
  replace hget := Lib.hid hget
  replace hr2 := Lib.hid hr2
  replace hT := Lib.hid hT
  replace hH := Lib.hid hH
  replace hs := Lib.hid hs
  replace hl := Lib.hid hl
  clear hr hk
  have hdec : 512 < name.size ∨ ¬ 512 < name.size ∧ 4096 < s.size ∨ ¬ 512 < name.size ∧ ¬ 4096 < s.size ∧ H = false ∧ 256 ≤ n := by
    unfold TooBig fineF at hbig
    by_cases h1 : 512 < name.size
    · exact Or.inl h1
    · by_cases h2 : 4096 < s.size
      · exact Or.inr (Or.inl ⟨h1, h2⟩)
      · refine Or.inr (Or.inr ⟨h1, h2, ?_⟩)
        rcases hbig with h | ⟨h3, h4⟩
        · exact absurd ⟨by show name.size ≤ 512; omega, by show s.size ≤ 4096; omega⟩ h
        · exact ⟨by rw [hH.out]; exact h3, by have := hl.out; omega⟩
  clear hbig
  go_enter Tryd.func23, Tryd.ntmps23
  go_upto_region 1 with fail
  rw [← hW2.out]
  go_wp2_with fail
  refine hget.out.mono ?_
  rintro e w4 ⟨rfl, hb4⟩
  replace g0 := bcell hb4 g0
  replace g1 := bcell hb4 g1
  replace g2 := bcell hb4 g2
  replace i0 := bcell hb4 i0
  replace i1 := bcell hb4 i1
  replace i2 := bcell hb4 i2
  replace hfC := hfC.of_block (hb4.block _ hfC.lt)
  clear y0 y1 y2
  have y0 := hfC.frz 0 none
  have y1 := hfC.frz 1 none
  have y2 := hfC.frz 2 none
  have hbel := hb2.trans (hb4.mono hb2.size)
  have hfin := set3 hbel
  replace hfin := Lib.hid hfin
  rcases hdec with h1 | ⟨h1, h2⟩ | ⟨h1, h2, rfl, h3⟩
  · have h1' : (512 : Int) < name.size := by omega
    go_wp2_with fail
    refine bodyPost_ret (v := .tuple #[.agg #[.int .i64 k, .string t, .slice a n cap], .bool false, .int .i64 94]) (by simp [results, Tryd.results23, go_sem, i0, i1, i2]) rfl ⟨rfl, hfin.out _ _ _⟩
  · have h1' : ¬ (512 : Int) < name.size := by omega
    have h2' : (4096 : Int) < s.size := by omega
    go_wp2_with fail
    refine bodyPost_ret (v := .tuple #[.agg #[.int .i64 k, .string t, .slice a n cap], .bool false, .int .i64 94]) (by simp [results, Tryd.results23, go_sem, i0, i1, i2]) rfl ⟨rfl, hfin.out _ _ _⟩
  · have h1' : ¬ (512 : Int) < name.size := by omega
    have h2' : ¬ (4096 : Int) < s.size := by omega
    have h3' : (256 : Int) ≤ n := by omega
    go_wp2_with fail
    refine bodyPost_ret (v := .tuple #[.agg #[.int .i64 k, .string t, .slice a n cap], .bool false, .int .i64 94]) (by simp [results, Tryd.results23, go_sem, i0, i1, i2]) rfl ⟨rfl, hfin.out _ _ _⟩

theorem bcellB {B : Nat} {w w' : World} (hb : Below B w w') {b q : Nat} {u : Value} (hlt : b < B) (h : w.cell? ⟨b, q, none⟩ = some u) : w'.cell? ⟨b, q, none⟩ = some u := by rw [hb.cell (by exact hlt)]; exact h
theorem OutB.ne {wr : World} {o : Nat} {k : Int} {v : Value} {out : List Fld} (h : OutB wr o k v out) : ¬ v.ownBlock = some o := fun e => by have := (owns_block h.own o e).1; omega
theorem OutB.size {wr : World} {o : Nat} {k : Int} {v : Value} {out : List Fld} (h : OutB wr o k v out) : o + 1 ≤ wr.heap.size := h.blk.lt
theorem OutB.low {wr : World} {o : Nat} {k : Int} {v : Value} {out : List Fld} (h : OutB wr o k v out) (i : Nat) (hi : i < o) : ¬ (i = o ∨ v.ownBlock = some i) := fun e => by
  rcases e with e | e
  · omega
  · have := (owns_block h.own i e).1; omega
theorem putR_len {fs : List Fld} {name s : ByteArray} {out : List Fld} {pl : Bool} {j : Nat} (h : PutR fs name s j pl out) : out.length ≤ fs.length + 1 := by
  have h2 := lbF_le fs name
  rcases h with ⟨_, _, rfl⟩ | ⟨_, _, rfl⟩
  · rw [List.length_take]; omega
  · rw [List.length_append, List.length_cons, List.length_take, List.length_drop, List.length_take]; omega
set_option maxRecDepth 100000 in
set_option maxHeartbeats 12800000 in
theorem rput_in (k : Int) (t : ByteArray) (a : Option Addr) (n cap : Nat) (fs : List Fld) (name s : ByteArray) (w : World) (hk : k ≠ 1) (hr : RF w a n cap fs) (hs : Srt fs) (hn : n ≤ 99999) (hfine : fineF (name, s)) (hroom : hasF fs name = true ∨ n < 256) :
    Calls Tryd.prog 23 #[.agg #[.int .i64 k, .string t, .slice a n cap], .string name, .string s] w fun e w' => ∃ (a' : Option Addr) (n' cap' : Nat), e = .returned (.tuple #[.agg #[.int .i64 2, .string ⟨#[]⟩, .slice a' n' cap'], .bool (!hasF fs name), .int .i64 0]) ∧ RF w' a' n' cap' (putF fs name s) ∧ Below w.heap.size w w' := by
  have hn : n ≤ 100000 := by omega
  have hl := hr.len
  have hk1 : (k == 1) = false := by simpa using hk
  obtain ⟨W2, hW2⟩ : ∃ W2, W2 = (w.alloc (.cells #[.int .i64 k, .string t, .slice a n cap] 24)).alloc (.cells #[.int .i64 0, .string ⟨#[]⟩, .slice none 0 0] 24) := ⟨_, rfl⟩
  have hb2 : Below w.heap.size w W2 := by rw [hW2]; exact ((Below.refl _ _).alloc (Nat.le_refl _) _).alloc (by simp) _
  have hs2 : W2.heap.size = w.heap.size + 2 := by rw [hW2]; simp
  have hB : ∀ q u, #[.int .i64 k, .string t, .slice a n cap][q]? = some u → W2.cell? ⟨w.heap.size, q, none⟩ = some u := fun q u h => by rw [hW2, World.cell?_alloc_past _ _ _ (by simp), World.cell?_alloc_new]; exact h
  have hC : ∀ q u, #[.int .i64 0, .string ⟨#[]⟩, .slice none 0 0][q]? = some u → W2.cell? ⟨w.heap.size + 1, q, none⟩ = some u := fun q u h => by
    rw [hW2, show w.heap.size + 1 = (w.alloc (.cells #[.int .i64 k, .string t, .slice a n cap] 24)).heap.size by simp, World.cell?_alloc_new]; exact h
  have hfC : Blk W2 (w.heap.size + 1) := by rw [hW2, show w.heap.size + 1 = (w.alloc (.cells #[.int .i64 k, .string t, .slice a n cap] 24)).heap.size by simp]; exact Blk.new _ _ _
  have g0 : W2.cell? ⟨w.heap.size, 0, none⟩ = some (.int .i64 k) := hB 0 _ rfl
  have g1 : W2.cell? ⟨w.heap.size, 1, none⟩ = some (.string t) := hB 1 _ rfl
  have g2 : W2.cell? ⟨w.heap.size, 2, none⟩ = some (.slice a n cap) := hB 2 _ rfl
  have i0 : W2.cell? ⟨w.heap.size + 1, 0, none⟩ = some (.int .i64 0) := hC 0 _ rfl
  have i1 : W2.cell? ⟨w.heap.size + 1, 1, none⟩ = some (.string ⟨#[]⟩) := hC 1 _ rfl
  have i2 : W2.cell? ⟨w.heap.size + 1, 2, none⟩ = some (.slice none 0 0) := hC 2 _ rfl
  have y0 := hfC.frz 0 none
  have y1 := hfC.frz 1 none
  have y2 := hfC.frz 2 none
  replace hW2 := Lib.hid hW2
  clear hB hC
  have hr2 := hr.below hb2
  have hget := rget_any k t a n cap fs name W2 hk hr2 hn
  obtain ⟨T, hT⟩ : ∃ T, T = (getF fs name).getD ⟨#[]⟩ := ⟨_, rfl⟩
  obtain ⟨H, hH⟩ : ∃ H, H = hasF fs name := ⟨_, rfl⟩
  rw [← hT, ← hH] at hget
  replace hget := Lib.hid hget
  replace hr2 := Lib.hid hr2
  replace hT := Lib.hid hT
  replace hH := Lib.hid hH
  replace hs := Lib.hid hs
  replace hl := Lib.hid hl
  clear hr hk
  obtain ⟨f1, f2⟩ := hfine
  have h1' : ¬ (512 : Int) < name.size := by have : name.size ≤ 512 := f1; omega
  have h2' : ¬ (4096 : Int) < s.size := by have : s.size ≤ 4096 := f2; omega
  have h3' : H = false → ¬ (256 : Int) ≤ n := fun h => by
    rcases hroom with h4 | h4
    · rw [← hH.out, h] at h4; cases h4
    · omega
  obtain ⟨PF, hPF⟩ : ∃ PF, PF = putF fs name s := ⟨_, rfl⟩
  rw [← hPF, ← hH.out]
  replace hPF := Lib.hid hPF
  replace h3' := Lib.hid h3'
  clear f1 f2 hroom
  go_enter Tryd.func23, Tryd.ntmps23
  go_upto_region 1 with fail
  rw [← hW2.out]
  go_wp2_with fail
  refine hget.out.mono ?_
  rintro e w4 ⟨rfl, hb4⟩
  replace g0 := bcell hb4 g0
  replace g1 := bcell hb4 g1
  replace g2 := bcell hb4 g2
  replace i0 := bcell hb4 i0
  replace i1 := bcell hb4 i1
  replace i2 := bcell hb4 i2
  replace hfC := hfC.of_block (hb4.block _ hfC.lt)
  clear y0 y1 y2
  have y0 := hfC.frz 0 none
  have y1 := hfC.frz 1 none
  have y2 := hfC.frz 2 none
  have hbel := hb2.trans (hb4.mono hb2.size)
  have hr4 := hr2.out.below hb4
  replace hr4 := Lib.hid hr4
  obtain ⟨W5, hW5⟩ : ∃ W5, W5 = w4.alloc (.cells #[.int .i64 2, .string ⟨#[]⟩, .slice none 0 0] 24) := ⟨_, rfl⟩
  have hb45 : Below w4.heap.size w4 W5 := by rw [hW5]; exact (Below.refl _ _).alloc (Nat.le_refl _) _
  have hs5 : W5.heap.size = w4.heap.size + 1 := by rw [hW5]; simp
  have hob : OutB W5 w4.heap.size 2 (.slice none 0 0) [] := by
    rw [hW5]
    exact ⟨World.ownsRow_nil _ _ _ _, World.cell?_alloc_new _ _ _ 0, World.cell?_alloc_new _ _ _ 1, World.cell?_alloc_new _ _ _ 2, Blk.new _ _ _⟩
  have hguard := h3'.out
  clear h3'
  replace hW5 := Lib.hid hW5
  cases H with
  | true =>
    clear hguard
    go_upto_region 7 with fail
    rw [← hW5.out]
    replace g0 := bcell hb45 g0
    replace g1 := bcell hb45 g1
    replace g2 := bcell hb45 g2
    replace i0 := bcell hb45 i0
    replace i1 := bcell hb45 i1
    replace i2 := bcell hb45 i2
    replace hfC := hfC.of_block (hb45.block _ hfC.lt)
    clear y0 y1 y2
    have y0 := hfC.frz 0 none
    have y1 := hfC.frz 1 none
    have y2 := hfC.frz 2 none
    have hi0 := Lib.hid i0
    have hi1 := Lib.hid i1
    have hi2 := Lib.hid i2
    have hiC := hfC
    go_wp2_with fail
    go_loopw [13, 50] (fun s13 i wr => ∃ (j : Nat) (pl : Bool) (v : Value) (out : List Fld), j ≤ n ∧ i = .int .i64 j ∧ s13 = .bool pl ∧ PutR fs name s j pl out ∧ OutB wr w4.heap.size 2 v out ∧ Below w4.heap.size W5 wr) (fun _ i _ => n - (intOf i).toNat)
    case atStart => exact ⟨0, false, _, [], Nat.zero_le _, rfl, rfl, putR_nil _ _ _, hob, Below.refl _ _⟩
    case round =>
      obtain ⟨j, pl, v, out, hj, rfl, rfl, hPR, ob, hbelr⟩ := hrel
      clear g0 g1 g2 i0 i1 i2 y0 y1 y2
      have hm8 := putR_len hPR
      have hm9 : out.length < 1000000000 := by have := hl.out; omega
      by_cases hlt : j < n
      · have hb4r := hb45.trans hbelr
        obtain ⟨b, o, f, hf, rfl, d0, d1⟩ := hr4.out.at hlt
        replace d0 := bcell hb4r d0
        replace d1 := bcell hb4r d1
        obtain ⟨W6, hW6⟩ : ∃ W6, W6 = wr.alloc (.cells #[.string f.1, .string f.2] 30) := ⟨_, rfl⟩
        have hb6 : Below wr.heap.size wr W6 := by rw [hW6]; exact (Below.refl _ _).alloc (Nat.le_refl _) _
        have p0 : W6.cell? ⟨wr.heap.size, 0, none⟩ = some (.string f.1) := by rw [hW6, World.cell?_alloc_new]; rfl
        have p1 : W6.cell? ⟨wr.heap.size, 1, none⟩ = some (.string f.2) := by rw [hW6, World.cell?_alloc_new]; rfl
        have hpown : ¬ v.ownBlock = some wr.heap.size := fun e => by have := (owns_block ob.own _ e).2; omega
        have hpo : ¬ (wr.heap.size = w4.heap.size) := by have := ob.blk.lt; omega
        have ob6 := ob.below hb6
        have hbel6 : Below w4.heap.size W5 W6 := hbelr.trans (hb6.mono (by have := ob.blk.lt; omega))
        go_upto_region 11 with fail
        rw [← hW6]
        clear d0 d1 hb4r hb6 ob hbelr
        replace hW6 := Lib.hid hW6
        have hless := less_cmpB f.1 name
        by_cases hc : cmpB f.1 name < 0
        · obtain ⟨rfl, hPR2⟩ := putR_lo hf hPR hc hs.out
          clear hPR
          have hPR := hPR2
          clear hPR2
          have hls : Op.bytesLess f.1.toList name.toList = true := by rw [hless]; simpa using hc
          have hne1 : f.1 ≠ name := fun e => by rw [e, cmpB_self] at hc; omega
          have hb1 := str_ne hne1
          have hb2' : (f.1.toList != name.toList) = true := by simp only [bne, hb1]; rfl
          replace hPR := Lib.hid hPR
          replace hf := Lib.hid hf
          replace hne1 := Lib.hid hne1
          clear hless hc
          have hne := ob6.ne
          have oc2 := ob6.c2
          have hlo := ob6.size
          go_wp2_with (at_builtin; refine append_elem rfl rfl eFld rfl ob6.own rfl rfl rfl hm9 hlo ?_)
          intro v1 w1 hown1 hf1
          obtain ⟨a1, c1, rfl⟩ := (Reads.of_owns hown1).shape
          have ob1 := ob6
          have ob2 := ob1.push (f := f) hown1 hf1
          obtain ⟨ob2, hf2⟩ := ob2
          have oc3 := hf1.cell oc2 hne
          have oz3 := (ob1.blk.fr hf1 hne).frz 2 none
          clear oc2 hown1
          go_upto_region 16 with fail
          clear oc3 oz3 hf1
          generalize (w1.setCell ⟨w4.heap.size, 2, none⟩ (Value.slice a1 _ c1)) = wc at *
          clear w1
          have hbelc : Below w4.heap.size W5 wc := hbel6.trans (hf2.below (by have := ob6.blk.lt; omega) (fun i hi h => ob6.low i hi h))
          clear p0 p1 hls hb1 hb2' hf2
          go_wp2
          go_roundw
          case rel => exact ⟨j + 1, _, _, _, by omega, by go_num, rfl, hPR.out, ob2, hbelc⟩
          case measure => simp [intOf]; omega
        · have hhi := putR_hi hf hPR hc hs.out
          have hls : Op.bytesLess f.1.toList name.toList = false := by rw [hless]; simpa using hc
          clear hless hPR
          cases pl with
          | true =>
            obtain ⟨hne1, hPR⟩ := hhi.2 rfl
            have hb1 := str_ne hne1
            have hb2' : (f.1.toList != name.toList) = true := by simp only [bne, hb1]; rfl
            replace hPR := Lib.hid hPR
            replace hf := Lib.hid hf
            replace hne1 := Lib.hid hne1
            clear hhi hc
            have hne := ob6.ne
            have oc2 := ob6.c2
            have hlo := ob6.size
            go_wp2_with (at_builtin; refine append_elem rfl rfl eFld rfl ob6.own rfl rfl rfl hm9 hlo ?_)
            intro v1 w1 hown1 hf1
            obtain ⟨a1, c1, rfl⟩ := (Reads.of_owns hown1).shape
            have ob1 := ob6
            have ob2 := ob1.push (f := f) hown1 hf1
            obtain ⟨ob2, hf2⟩ := ob2
            have oc3 := hf1.cell oc2 hne
            have oz3 := (ob1.blk.fr hf1 hne).frz 2 none
            clear oc2 hown1
            go_upto_region 16 with fail
            clear oc3 oz3 hf1
            generalize (w1.setCell ⟨w4.heap.size, 2, none⟩ (Value.slice a1 _ c1)) = wc at *
            clear w1
            have hbelc : Below w4.heap.size W5 wc := hbel6.trans (hf2.below (by have := ob6.blk.lt; omega) (fun i hi h => ob6.low i hi h))
            clear p0 p1 hls hb1 hb2' hf2
            go_wp2
            go_roundw
            case rel => exact ⟨j + 1, _, _, _, by omega, by go_num, rfl, hPR.out, ob2, hbelc⟩
            case measure => simp [intOf]; omega
          | false =>
            have hhi1 := hhi.1 rfl
            replace hf := Lib.hid hf
            clear hhi hc
            by_cases hne1 : f.1 = name
            · have hPR := hhi1.1 hne1
              have hb1 := str_eq hne1
              have hb2' : (f.1.toList != name.toList) = false := by simp only [bne, hb1]; rfl
              replace hPR := Lib.hid hPR
              replace hne1 := Lib.hid hne1
              clear hhi1
              have hne := ob6.ne
              have oc2 := ob6.c2
              have hlo := ob6.size
              go_wp2_with (at_builtin; refine append_elem rfl rfl eFld rfl ob6.own rfl rfl rfl hm9 hlo ?_)
              intro v1 w1 hown1 hf1
              obtain ⟨a1, c1, rfl⟩ := (Reads.of_owns hown1).shape
              have ob1 := ob6
              have ob2 := ob1.push (f := (name, s)) hown1 hf1
              obtain ⟨ob2, hf2⟩ := ob2
              have oc3 := hf1.cell oc2 hne
              have oz3 := (ob1.blk.fr hf1 hne).frz 2 none
              clear oc2 hown1
              go_upto_region 13 with fail
              clear oc3 oz3 hf1
              generalize (w1.setCell ⟨w4.heap.size, 2, none⟩ (Value.slice a1 _ c1)) = wc at *
              clear w1
              have hbelc : Below w4.heap.size W5 wc := hbel6.trans (hf2.below (by have := ob6.blk.lt; omega) (fun i hi h => ob6.low i hi h))
              have pp0 := hf2.cell p0 (fun h => h.elim hpo hpown)
              have pp1 := hf2.cell p1 (fun h => h.elim hpo hpown)
              clear p0 p1 hls hf2
              go_wp2
              go_roundw
              case rel => exact ⟨j + 1, _, _, _, by omega, by go_num, rfl, hPR.out, ob2, hbelc⟩
              case measure => simp [intOf]; omega
            · have hPR := hhi1.2 hne1
              obtain ⟨out2, ho2⟩ : ∃ o, o = out ++ [(name, s)] := ⟨_, rfl⟩
              rw [← ho2] at hPR
              have hm10 : out2.length < 1000000000 := by rw [ho2, List.length_append]; have := hl.out; simp; omega
              replace ho2 := Lib.hid ho2
              have hb1 := str_ne hne1
              have hb2' : (f.1.toList != name.toList) = true := by simp only [bne, hb1]; rfl
              replace hPR := Lib.hid hPR
              replace hne1 := Lib.hid hne1
              clear hhi1
              have hne := ob6.ne
              have oc2 := ob6.c2
              have hlo := ob6.size
              go_wp2_with (at_builtin; refine append_elem rfl rfl eFld rfl ob6.own rfl rfl rfl hm9 hlo ?_)
              intro v1 w1 hown1 hf1
              obtain ⟨a1, c1, rfl⟩ := (Reads.of_owns hown1).shape
              have ob1 := ob6
              have ob2 := ob1.push (f := (name, s)) hown1 hf1
              obtain ⟨ob2, hf2⟩ := ob2
              have oc3 := hf1.cell oc2 hne
              have oz3 := (ob1.blk.fr hf1 hne).frz 2 none
              clear oc2 hown1
              go_upto_region 13 with fail
              clear oc3 oz3 hf1
              generalize (w1.setCell ⟨w4.heap.size, 2, none⟩ (Value.slice a1 _ c1)) = wc at *
              clear w1
              have hbelc : Below w4.heap.size W5 wc := hbel6.trans (hf2.below (by have := ob6.blk.lt; omega) (fun i hi h => ob6.low i hi h))
              have pp0 := hf2.cell p0 (fun h => h.elim hpo hpown)
              have pp1 := hf2.cell p1 (fun h => h.elim hpo hpown)
              clear p0 p1 hls hf2
              rw [← ho2.out] at ob2
              have hm9 := hm10
              have hne := ob2.ne
              have oc2 := ob2.c2
              have hlo := ob2.size
              go_wp2_with (at_builtin; refine append_elem rfl rfl eFld rfl ob2.own rfl rfl rfl hm9 hlo ?_)
              intro v1 w1 hown1 hf1
              obtain ⟨a1, c1, rfl⟩ := (Reads.of_owns hown1).shape
              have ob1 := ob2
              have ob2 := ob1.push (f := f) hown1 hf1
              obtain ⟨ob2, hf2⟩ := ob2
              have oc3 := hf1.cell oc2 hne
              have oz3 := (ob1.blk.fr hf1 hne).frz 2 none
              clear oc2 hown1
              go_upto_region 16 with fail
              clear oc3 oz3 hf1
              generalize (w1.setCell ⟨w4.heap.size, 2, none⟩ (Value.slice a1 _ c1)) = wc at *
              clear w1
              have hbelc := hbelc.trans (hf2.below (by have := hbelc.size; omega) (fun i hi h => ob1.low i hi h))
              clear pp0 pp1 hb1 hb2' hf2
              go_wp2
              go_roundw
              case rel => exact ⟨j + 1, _, _, _, by omega, by go_num, rfl, hPR.out, ob2, hbelc⟩
              case measure => simp [intOf]; omega
      · have hjn : j = n := by omega
        subst hjn
        have hend := putR_end hs.out hl.out hPR
        have hww : w.heap.size + 1 < w4.heap.size := by have := hb4.size; omega
        obtain ⟨av, cv, rfl⟩ := (Reads.of_owns ob.own).shape
        cases pl with
        | true =>
          have hPFo : PF = out := by rw [hPF.out]; exact hend.symm
          have j0 := bcellB hbelr hww hi0.out
          have j1 := bcellB hbelr hww hi1.out
          have j2 := bcellB hbelr hww hi2.out
          have hj := hiC.of_block (hbelr.block _ hww)
          have x0 := hj.frz 0 none
          have x1 := hj.frz 1 none
          have x2 := hj.frz 2 none
          have n0 := ob.c0
          have n1 := ob.c1
          have n2 := ob.c2
          have hrf : RF wr av out.length cv PF := by rw [hPFo]; exact RF.of_owns ob.own
          have hown := ob.own
          have hbelw : Below w.heap.size w wr := hbel.trans ((hb45.trans hbelr).mono hbel.size)
          have hfin := set3 hbelw
          have hne1 : ¬ (w4.heap.size = w.heap.size + 1) := by omega
          replace hown := Lib.hid hown
          replace hfin := Lib.hid hfin
          replace hPFo := Lib.hid hPFo
          clear hPR hend hj ob hbelw hrf
          go_wp2_with fail
          refine bodyPost_ret (v := .tuple #[.agg #[.int .i64 2, .string ⟨#[]⟩, .slice av out.length cv], .bool false, .int .i64 0]) (by simp [results, Tryd.results23, go_sem, j0, j1, j2]) rfl ⟨av, out.length, cv, rfl, ?_, hfin.out _ _ _⟩
          rw [hPFo.out]
          exact RF.of_owns (owns_fr hown.out (fr3 w.heap.size _ _ _ _) (fun q hq => by have h1 := (owns_block hown.out q hq).1; show ¬ (q = w.heap.size + 1); omega))
        | false =>
          have hPFo : PF = out ++ [(name, s)] := by rw [hPF.out]; exact hend.symm
          have hm9 : out.length < 1000000000 := by omega
          replace hPFo := Lib.hid hPFo
          clear hPR hend
          have hne := ob.ne
          have oc2 := ob.c2
          have hlo := ob.size
          go_wp2_with (at_builtin; refine append_elem rfl rfl eFld rfl ob.own rfl rfl rfl hm9 hlo ?_)
          intro v1 w1 hown1 hf1
          obtain ⟨a1, c1, rfl⟩ := (Reads.of_owns hown1).shape
          have ob1 := ob
          have ob2 := ob1.push (f := (name, s)) hown1 hf1
          obtain ⟨ob2, hf2⟩ := ob2
          have oc3 := hf1.cell oc2 hne
          have oz3 := (ob1.blk.fr hf1 hne).frz 2 none
          clear oc2 hown1
          go_upto_region 19 with fail
          clear oc3 oz3 hf1
          generalize (w1.setCell ⟨w4.heap.size, 2, none⟩ (Value.slice a1 _ c1)) = wc at *
          clear w1
          have hbelc : Below w4.heap.size W5 wc := hbelr.trans (hf2.below (by have := hbelr.size; omega) (fun i hi h => ob1.low i hi h))
          obtain ⟨av2, cv2, hav2⟩ := (Reads.of_owns ob2.own).shape
          rw [hav2] at ob2
          have j0 := bcellB hbelc hww hi0.out
          have j1 := bcellB hbelc hww hi1.out
          have j2 := bcellB hbelc hww hi2.out
          have hj := hiC.of_block (hbelc.block _ hww)
          have x0 := hj.frz 0 none
          have x1 := hj.frz 1 none
          have x2 := hj.frz 2 none
          have n0 := ob2.c0
          have n1 := ob2.c1
          have n2 := ob2.c2
          have hown := ob2.own
          have hbelw : Below w.heap.size w wc := hbel.trans ((hb45.trans hbelc).mono hbel.size)
          have hfin := set3 hbelw
          have hne1 : ¬ (w4.heap.size = w.heap.size + 1) := by omega
          replace hown := Lib.hid hown
          replace hfin := Lib.hid hfin
          clear hj ob2 ob1 hbelw hf2 hbelr
          go_wp2_with fail
          refine bodyPost_ret (v := .tuple #[.agg #[.int .i64 2, .string ⟨#[]⟩, .slice av2 (out ++ [(name, s)]).length cv2], .bool false, .int .i64 0]) (by simp [results, Tryd.results23, go_sem, j0, j1, j2]) rfl ⟨av2, (out ++ [(name, s)]).length, cv2, rfl, ?_, hfin.out _ _ _⟩
          rw [hPFo.out]
          exact RF.of_owns (owns_fr hown.out (fr3 w.heap.size _ _ _ _) (fun q hq => by have h1 := (owns_block hown.out q hq).1; show ¬ (q = w.heap.size + 1); omega))
  | false =>
    have h3 := hguard rfl
    clear hguard
    go_upto_region 7 with fail
    rw [← hW5.out]
    replace g0 := bcell hb45 g0
    replace g1 := bcell hb45 g1
    replace g2 := bcell hb45 g2
    replace i0 := bcell hb45 i0
    replace i1 := bcell hb45 i1
    replace i2 := bcell hb45 i2
    replace hfC := hfC.of_block (hb45.block _ hfC.lt)
    clear y0 y1 y2
    have y0 := hfC.frz 0 none
    have y1 := hfC.frz 1 none
    have y2 := hfC.frz 2 none
    have hi0 := Lib.hid i0
    have hi1 := Lib.hid i1
    have hi2 := Lib.hid i2
    have hiC := hfC
    go_wp2_with fail
    go_loopw [13, 50] (fun s13 i wr => ∃ (j : Nat) (pl : Bool) (v : Value) (out : List Fld), j ≤ n ∧ i = .int .i64 j ∧ s13 = .bool pl ∧ PutR fs name s j pl out ∧ OutB wr w4.heap.size 2 v out ∧ Below w4.heap.size W5 wr) (fun _ i _ => n - (intOf i).toNat)
    case atStart => exact ⟨0, false, _, [], Nat.zero_le _, rfl, rfl, putR_nil _ _ _, hob, Below.refl _ _⟩
    case round =>
      obtain ⟨j, pl, v, out, hj, rfl, rfl, hPR, ob, hbelr⟩ := hrel
      clear g0 g1 g2 i0 i1 i2 y0 y1 y2
      have hm8 := putR_len hPR
      have hm9 : out.length < 1000000000 := by have := hl.out; omega
      by_cases hlt : j < n
      · have hb4r := hb45.trans hbelr
        obtain ⟨b, o, f, hf, rfl, d0, d1⟩ := hr4.out.at hlt
        replace d0 := bcell hb4r d0
        replace d1 := bcell hb4r d1
        obtain ⟨W6, hW6⟩ : ∃ W6, W6 = wr.alloc (.cells #[.string f.1, .string f.2] 30) := ⟨_, rfl⟩
        have hb6 : Below wr.heap.size wr W6 := by rw [hW6]; exact (Below.refl _ _).alloc (Nat.le_refl _) _
        have p0 : W6.cell? ⟨wr.heap.size, 0, none⟩ = some (.string f.1) := by rw [hW6, World.cell?_alloc_new]; rfl
        have p1 : W6.cell? ⟨wr.heap.size, 1, none⟩ = some (.string f.2) := by rw [hW6, World.cell?_alloc_new]; rfl
        have hpown : ¬ v.ownBlock = some wr.heap.size := fun e => by have := (owns_block ob.own _ e).2; omega
        have hpo : ¬ (wr.heap.size = w4.heap.size) := by have := ob.blk.lt; omega
        have ob6 := ob.below hb6
        have hbel6 : Below w4.heap.size W5 W6 := hbelr.trans (hb6.mono (by have := ob.blk.lt; omega))
        go_upto_region 11 with fail
        rw [← hW6]
        clear d0 d1 hb4r hb6 ob hbelr
        replace hW6 := Lib.hid hW6
        have hless := less_cmpB f.1 name
        by_cases hc : cmpB f.1 name < 0
        · obtain ⟨rfl, hPR2⟩ := putR_lo hf hPR hc hs.out
          clear hPR
          have hPR := hPR2
          clear hPR2
          have hls : Op.bytesLess f.1.toList name.toList = true := by rw [hless]; simpa using hc
          have hne1 : f.1 ≠ name := fun e => by rw [e, cmpB_self] at hc; omega
          have hb1 := str_ne hne1
          have hb2' : (f.1.toList != name.toList) = true := by simp only [bne, hb1]; rfl
          replace hPR := Lib.hid hPR
          replace hf := Lib.hid hf
          replace hne1 := Lib.hid hne1
          clear hless hc
          have hne := ob6.ne
          have oc2 := ob6.c2
          have hlo := ob6.size
          go_wp2_with (at_builtin; refine append_elem rfl rfl eFld rfl ob6.own rfl rfl rfl hm9 hlo ?_)
          intro v1 w1 hown1 hf1
          obtain ⟨a1, c1, rfl⟩ := (Reads.of_owns hown1).shape
          have ob1 := ob6
          have ob2 := ob1.push (f := f) hown1 hf1
          obtain ⟨ob2, hf2⟩ := ob2
          have oc3 := hf1.cell oc2 hne
          have oz3 := (ob1.blk.fr hf1 hne).frz 2 none
          clear oc2 hown1
          go_upto_region 16 with fail
          clear oc3 oz3 hf1
          generalize (w1.setCell ⟨w4.heap.size, 2, none⟩ (Value.slice a1 _ c1)) = wc at *
          clear w1
          have hbelc : Below w4.heap.size W5 wc := hbel6.trans (hf2.below (by have := ob6.blk.lt; omega) (fun i hi h => ob6.low i hi h))
          clear p0 p1 hls hb1 hb2' hf2
          go_wp2
          go_roundw
          case rel => exact ⟨j + 1, _, _, _, by omega, by go_num, rfl, hPR.out, ob2, hbelc⟩
          case measure => simp [intOf]; omega
        · have hhi := putR_hi hf hPR hc hs.out
          have hls : Op.bytesLess f.1.toList name.toList = false := by rw [hless]; simpa using hc
          clear hless hPR
          cases pl with
          | true =>
            obtain ⟨hne1, hPR⟩ := hhi.2 rfl
            have hb1 := str_ne hne1
            have hb2' : (f.1.toList != name.toList) = true := by simp only [bne, hb1]; rfl
            replace hPR := Lib.hid hPR
            replace hf := Lib.hid hf
            replace hne1 := Lib.hid hne1
            clear hhi hc
            have hne := ob6.ne
            have oc2 := ob6.c2
            have hlo := ob6.size
            go_wp2_with (at_builtin; refine append_elem rfl rfl eFld rfl ob6.own rfl rfl rfl hm9 hlo ?_)
            intro v1 w1 hown1 hf1
            obtain ⟨a1, c1, rfl⟩ := (Reads.of_owns hown1).shape
            have ob1 := ob6
            have ob2 := ob1.push (f := f) hown1 hf1
            obtain ⟨ob2, hf2⟩ := ob2
            have oc3 := hf1.cell oc2 hne
            have oz3 := (ob1.blk.fr hf1 hne).frz 2 none
            clear oc2 hown1
            go_upto_region 16 with fail
            clear oc3 oz3 hf1
            generalize (w1.setCell ⟨w4.heap.size, 2, none⟩ (Value.slice a1 _ c1)) = wc at *
            clear w1
            have hbelc : Below w4.heap.size W5 wc := hbel6.trans (hf2.below (by have := ob6.blk.lt; omega) (fun i hi h => ob6.low i hi h))
            clear p0 p1 hls hb1 hb2' hf2
            go_wp2
            go_roundw
            case rel => exact ⟨j + 1, _, _, _, by omega, by go_num, rfl, hPR.out, ob2, hbelc⟩
            case measure => simp [intOf]; omega
          | false =>
            have hhi1 := hhi.1 rfl
            replace hf := Lib.hid hf
            clear hhi hc
            by_cases hne1 : f.1 = name
            · have hPR := hhi1.1 hne1
              have hb1 := str_eq hne1
              have hb2' : (f.1.toList != name.toList) = false := by simp only [bne, hb1]; rfl
              replace hPR := Lib.hid hPR
              replace hne1 := Lib.hid hne1
              clear hhi1
              have hne := ob6.ne
              have oc2 := ob6.c2
              have hlo := ob6.size
              go_wp2_with (at_builtin; refine append_elem rfl rfl eFld rfl ob6.own rfl rfl rfl hm9 hlo ?_)
              intro v1 w1 hown1 hf1
              obtain ⟨a1, c1, rfl⟩ := (Reads.of_owns hown1).shape
              have ob1 := ob6
              have ob2 := ob1.push (f := (name, s)) hown1 hf1
              obtain ⟨ob2, hf2⟩ := ob2
              have oc3 := hf1.cell oc2 hne
              have oz3 := (ob1.blk.fr hf1 hne).frz 2 none
              clear oc2 hown1
              go_upto_region 13 with fail
              clear oc3 oz3 hf1
              generalize (w1.setCell ⟨w4.heap.size, 2, none⟩ (Value.slice a1 _ c1)) = wc at *
              clear w1
              have hbelc : Below w4.heap.size W5 wc := hbel6.trans (hf2.below (by have := ob6.blk.lt; omega) (fun i hi h => ob6.low i hi h))
              have pp0 := hf2.cell p0 (fun h => h.elim hpo hpown)
              have pp1 := hf2.cell p1 (fun h => h.elim hpo hpown)
              clear p0 p1 hls hf2
              go_wp2
              go_roundw
              case rel => exact ⟨j + 1, _, _, _, by omega, by go_num, rfl, hPR.out, ob2, hbelc⟩
              case measure => simp [intOf]; omega
            · have hPR := hhi1.2 hne1
              obtain ⟨out2, ho2⟩ : ∃ o, o = out ++ [(name, s)] := ⟨_, rfl⟩
              rw [← ho2] at hPR
              have hm10 : out2.length < 1000000000 := by rw [ho2, List.length_append]; have := hl.out; simp; omega
              replace ho2 := Lib.hid ho2
              have hb1 := str_ne hne1
              have hb2' : (f.1.toList != name.toList) = true := by simp only [bne, hb1]; rfl
              replace hPR := Lib.hid hPR
              replace hne1 := Lib.hid hne1
              clear hhi1
              have hne := ob6.ne
              have oc2 := ob6.c2
              have hlo := ob6.size
              go_wp2_with (at_builtin; refine append_elem rfl rfl eFld rfl ob6.own rfl rfl rfl hm9 hlo ?_)
              intro v1 w1 hown1 hf1
              obtain ⟨a1, c1, rfl⟩ := (Reads.of_owns hown1).shape
              have ob1 := ob6
              have ob2 := ob1.push (f := (name, s)) hown1 hf1
              obtain ⟨ob2, hf2⟩ := ob2
              have oc3 := hf1.cell oc2 hne
              have oz3 := (ob1.blk.fr hf1 hne).frz 2 none
              clear oc2 hown1
              go_upto_region 13 with fail
              clear oc3 oz3 hf1
              generalize (w1.setCell ⟨w4.heap.size, 2, none⟩ (Value.slice a1 _ c1)) = wc at *
              clear w1
              have hbelc : Below w4.heap.size W5 wc := hbel6.trans (hf2.below (by have := ob6.blk.lt; omega) (fun i hi h => ob6.low i hi h))
              have pp0 := hf2.cell p0 (fun h => h.elim hpo hpown)
              have pp1 := hf2.cell p1 (fun h => h.elim hpo hpown)
              clear p0 p1 hls hf2
              rw [← ho2.out] at ob2
              have hm9 := hm10
              have hne := ob2.ne
              have oc2 := ob2.c2
              have hlo := ob2.size
              go_wp2_with (at_builtin; refine append_elem rfl rfl eFld rfl ob2.own rfl rfl rfl hm9 hlo ?_)
              intro v1 w1 hown1 hf1
              obtain ⟨a1, c1, rfl⟩ := (Reads.of_owns hown1).shape
              have ob1 := ob2
              have ob2 := ob1.push (f := f) hown1 hf1
              obtain ⟨ob2, hf2⟩ := ob2
              have oc3 := hf1.cell oc2 hne
              have oz3 := (ob1.blk.fr hf1 hne).frz 2 none
              clear oc2 hown1
              go_upto_region 16 with fail
              clear oc3 oz3 hf1
              generalize (w1.setCell ⟨w4.heap.size, 2, none⟩ (Value.slice a1 _ c1)) = wc at *
              clear w1
              have hbelc := hbelc.trans (hf2.below (by have := hbelc.size; omega) (fun i hi h => ob1.low i hi h))
              clear pp0 pp1 hb1 hb2' hf2
              go_wp2
              go_roundw
              case rel => exact ⟨j + 1, _, _, _, by omega, by go_num, rfl, hPR.out, ob2, hbelc⟩
              case measure => simp [intOf]; omega
      · have hjn : j = n := by omega
        subst hjn
        have hend := putR_end hs.out hl.out hPR
        have hww : w.heap.size + 1 < w4.heap.size := by have := hb4.size; omega
        obtain ⟨av, cv, rfl⟩ := (Reads.of_owns ob.own).shape
        cases pl with
        | true =>
          have hPFo : PF = out := by rw [hPF.out]; exact hend.symm
          have j0 := bcellB hbelr hww hi0.out
          have j1 := bcellB hbelr hww hi1.out
          have j2 := bcellB hbelr hww hi2.out
          have hj := hiC.of_block (hbelr.block _ hww)
          have x0 := hj.frz 0 none
          have x1 := hj.frz 1 none
          have x2 := hj.frz 2 none
          have n0 := ob.c0
          have n1 := ob.c1
          have n2 := ob.c2
          have hrf : RF wr av out.length cv PF := by rw [hPFo]; exact RF.of_owns ob.own
          have hown := ob.own
          have hbelw : Below w.heap.size w wr := hbel.trans ((hb45.trans hbelr).mono hbel.size)
          have hfin := set3 hbelw
          have hne1 : ¬ (w4.heap.size = w.heap.size + 1) := by omega
          replace hown := Lib.hid hown
          replace hfin := Lib.hid hfin
          replace hPFo := Lib.hid hPFo
          clear hPR hend hj ob hbelw hrf
          go_wp2_with fail
          refine bodyPost_ret (v := .tuple #[.agg #[.int .i64 2, .string ⟨#[]⟩, .slice av out.length cv], .bool true, .int .i64 0]) (by simp [results, Tryd.results23, go_sem, j0, j1, j2]) rfl ⟨av, out.length, cv, rfl, ?_, hfin.out _ _ _⟩
          rw [hPFo.out]
          exact RF.of_owns (owns_fr hown.out (fr3 w.heap.size _ _ _ _) (fun q hq => by have h1 := (owns_block hown.out q hq).1; show ¬ (q = w.heap.size + 1); omega))
        | false =>
          have hPFo : PF = out ++ [(name, s)] := by rw [hPF.out]; exact hend.symm
          have hm9 : out.length < 1000000000 := by omega
          replace hPFo := Lib.hid hPFo
          clear hPR hend
          have hne := ob.ne
          have oc2 := ob.c2
          have hlo := ob.size
          go_wp2_with (at_builtin; refine append_elem rfl rfl eFld rfl ob.own rfl rfl rfl hm9 hlo ?_)
          intro v1 w1 hown1 hf1
          obtain ⟨a1, c1, rfl⟩ := (Reads.of_owns hown1).shape
          have ob1 := ob
          have ob2 := ob1.push (f := (name, s)) hown1 hf1
          obtain ⟨ob2, hf2⟩ := ob2
          have oc3 := hf1.cell oc2 hne
          have oz3 := (ob1.blk.fr hf1 hne).frz 2 none
          clear oc2 hown1
          go_upto_region 19 with fail
          clear oc3 oz3 hf1
          generalize (w1.setCell ⟨w4.heap.size, 2, none⟩ (Value.slice a1 _ c1)) = wc at *
          clear w1
          have hbelc : Below w4.heap.size W5 wc := hbelr.trans (hf2.below (by have := hbelr.size; omega) (fun i hi h => ob1.low i hi h))
          obtain ⟨av2, cv2, hav2⟩ := (Reads.of_owns ob2.own).shape
          rw [hav2] at ob2
          have j0 := bcellB hbelc hww hi0.out
          have j1 := bcellB hbelc hww hi1.out
          have j2 := bcellB hbelc hww hi2.out
          have hj := hiC.of_block (hbelc.block _ hww)
          have x0 := hj.frz 0 none
          have x1 := hj.frz 1 none
          have x2 := hj.frz 2 none
          have n0 := ob2.c0
          have n1 := ob2.c1
          have n2 := ob2.c2
          have hown := ob2.own
          have hbelw : Below w.heap.size w wc := hbel.trans ((hb45.trans hbelc).mono hbel.size)
          have hfin := set3 hbelw
          have hne1 : ¬ (w4.heap.size = w.heap.size + 1) := by omega
          replace hown := Lib.hid hown
          replace hfin := Lib.hid hfin
          clear hj ob2 ob1 hbelw hf2 hbelr
          go_wp2_with fail
          refine bodyPost_ret (v := .tuple #[.agg #[.int .i64 2, .string ⟨#[]⟩, .slice av2 (out ++ [(name, s)]).length cv2], .bool true, .int .i64 0]) (by simp [results, Tryd.results23, go_sem, j0, j1, j2]) rfl ⟨av2, (out ++ [(name, s)]).length, cv2, rfl, ?_, hfin.out _ _ _⟩
          rw [hPFo.out]
          exact RF.of_owns (owns_fr hown.out (fr3 w.heap.size _ _ _ _) (fun q hq => by have h1 := (owns_block hown.out q hq).1; show ¬ (q = w.heap.size + 1); omega))
end Go.Proofs.YteoalcmhdoopnaaDoor
