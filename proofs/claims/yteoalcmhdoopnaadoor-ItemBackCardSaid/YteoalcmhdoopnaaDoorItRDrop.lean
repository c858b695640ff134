/- The document's Drop. -/
import Derived.Test.YteoalcmhdoopnaaDoorItRPut
namespace Go.Proofs.YteoalcmhdoopnaaDoor
open Go.RowKit

theorem dropF_len {fs : List Fld} (hs : Srt fs) (name : ByteArray) : (dropF fs name).length + (if hasF fs name then 1 else 0) = fs.length := by
  cases h : hasF fs name with
  | false => rw [dropF_none h]; rfl
  | true =>
    obtain ⟨hk, _⟩ := (hasF_at hs).1 h
    rw [dropF_at hs h, List.length_append, List.length_take, List.length_drop]; simp; omega
theorem dropF_take {fs : List Fld} {j : Nat} {f : Fld} (hf : fs[j]? = some f) (name : ByteArray) : dropF (fs.take (j + 1)) name = if f.1 = name then dropF (fs.take j) name else dropF (fs.take j) name ++ [f] := by
  obtain ⟨hj, rfl⟩ := List.getElem?_eq_some_iff.1 hf
  unfold dropF
  rw [List.take_succ_eq_append_getElem hj, List.filter_append, List.filter_cons]
  by_cases h : fs[j].1 = name <;> simp [h]
set_option maxRecDepth 100000 in
set_option maxHeartbeats 3200000 in
theorem rdrop_text (t : ByteArray) (a : Option Addr) (n cap : Nat) (name : ByteArray) (w : World) :
    Calls Tryd.prog 25 #[.agg #[.int .i64 1, .string t, .slice a n cap], .string name] w fun e w' => e = .returned (.tuple #[.agg #[.int .i64 1, .string t, .slice a n cap], .bool false, .int .i64 91]) ∧ Below w.heap.size w w' := by
  obtain ⟨k, hk⟩ : ∃ k : Int, k = 1 := ⟨_, rfl⟩
  rw [← hk]
  obtain ⟨W2, hW2⟩ : ∃ W2, W2 = (w.alloc (.cells #[.int .i64 k, .string t, .slice a n cap] 24)).alloc (.cells #[.int .i64 0, .string ⟨#[]⟩, .slice none 0 0] 24) := ⟨_, rfl⟩
  have hb2 : Below w.heap.size w W2 := by rw [hW2]; exact ((Below.refl _ _).alloc (Nat.le_refl _) _).alloc (by simp) _
  have hs2 : W2.heap.size = w.heap.size + 2 := by rw [hW2]; simp
  have hB : ∀ q u, #[.int .i64 k, .string t, .slice a n cap][q]? = some u → W2.cell? ⟨w.heap.size, q, none⟩ = some u := fun q u h => by rw [hW2, World.cell?_alloc_past _ _ _ (by simp), World.cell?_alloc_new]; exact h
  have hC : ∀ q u, #[.int .i64 0, .string ⟨#[]⟩, .slice none 0 0][q]? = some u → W2.cell? ⟨w.heap.size + 1, q, none⟩ = some u := fun q u h => by
    rw [hW2, show w.heap.size + 1 = (w.alloc (.cells #[.int .i64 k, .string t, .slice a n cap] 24)).heap.size by simp, World.cell?_alloc_new]; exact h
  have hfC : Blk W2 (w.heap.size + 1) := by rw [hW2, show w.heap.size + 1 = (w.alloc (.cells #[.int .i64 k, .string t, .slice a n cap] 24)).heap.size by simp]; exact Blk.new _ _ _
  have g0 : W2.cell? ⟨w.heap.size, 0, none⟩ = some (.int .i64 k) := hB 0 _ rfl
  have g1 : W2.cell? ⟨w.heap.size, 1, none⟩ = some (.string t) := hB 1 _ rfl
  have g2 : W2.cell? ⟨w.heap.size, 2, none⟩ = some (.slice a n cap) := hB 2 _ rfl
  have i0 : W2.cell? ⟨w.heap.size + 1, 0, none⟩ = some (.int .i64 0) := hC 0 _ rfl
  have i1 : W2.cell? ⟨w.heap.size + 1, 1, none⟩ = some (.string ⟨#[]⟩) := hC 1 _ rfl
  have i2 : W2.cell? ⟨w.heap.size + 1, 2, none⟩ = some (.slice none 0 0) := hC 2 _ rfl
  have y0 := hfC.frz 0 none
  have y1 := hfC.frz 1 none
  have y2 := hfC.frz 2 none
  replace hW2 := Lib.hid hW2
  clear hB hC
  have hfin := set3 hb2
  have hk1 : (k == 1) = true := by simpa using hk
  replace hfin := Lib.hid hfin
  replace hk := Lib.hid hk
  go_enter Tryd.func25, Tryd.ntmps25
  go_upto_region 1 with fail
  rw [← hW2.out]
  go_wp2_with fail
  refine bodyPost_ret (v := .tuple #[.agg #[.int .i64 k, .string t, .slice a n cap], .bool false, .int .i64 91]) (by simp [results, Tryd.results25, go_sem, i0, i1, i2]) rfl ⟨rfl, hfin.out _ _ _⟩
set_option maxRecDepth 100000 in
set_option maxHeartbeats 12800000 in
theorem rdrop_some (k : Int) (t : ByteArray) (a : Option Addr) (n cap : Nat) (fs : List Fld) (name : ByteArray) (w : World) (hk : k ≠ 1) (hr : RF w a n cap fs) (hs : Srt fs) (hn : n ≤ 100000) (hD : dropF fs name ≠ []) :
    Calls Tryd.prog 25 #[.agg #[.int .i64 k, .string t, .slice a n cap], .string name] w fun e w' => ∃ (a' : Option Addr) (n' cap' : Nat), e = .returned (.tuple #[.agg #[.int .i64 k, .string ⟨#[]⟩, .slice a' n' cap'], .bool (hasF fs name), .int .i64 0]) ∧ w'.ownsRow w.heap.size 30 2 (.slice a' n' cap') n' (flds (dropF fs name)) ∧ Below w.heap.size w w' := by
  have hD0 : 0 < (dropF fs name).length := List.length_pos_iff.2 hD
  replace hD0 := Lib.hid hD0
  clear hD
  have hl := hr.len
  have hk1 : (k == 1) = false := by simpa using hk
  obtain ⟨W2, hW2⟩ : ∃ W2, W2 = (w.alloc (.cells #[.int .i64 k, .string t, .slice a n cap] 24)).alloc (.cells #[.int .i64 0, .string ⟨#[]⟩, .slice none 0 0] 24) := ⟨_, rfl⟩
  have hb2 : Below w.heap.size w W2 := by rw [hW2]; exact ((Below.refl _ _).alloc (Nat.le_refl _) _).alloc (by simp) _
  have hs2 : W2.heap.size = w.heap.size + 2 := by rw [hW2]; simp
  have hB : ∀ q u, #[.int .i64 k, .string t, .slice a n cap][q]? = some u → W2.cell? ⟨w.heap.size, q, none⟩ = some u := fun q u h => by rw [hW2, World.cell?_alloc_past _ _ _ (by simp), World.cell?_alloc_new]; exact h
  have hC : ∀ q u, #[.int .i64 0, .string ⟨#[]⟩, .slice none 0 0][q]? = some u → W2.cell? ⟨w.heap.size + 1, q, none⟩ = some u := fun q u h => by
    rw [hW2, show w.heap.size + 1 = (w.alloc (.cells #[.int .i64 k, .string t, .slice a n cap] 24)).heap.size by simp, World.cell?_alloc_new]; exact h
  have hfC : Blk W2 (w.heap.size + 1) := by rw [hW2, show w.heap.size + 1 = (w.alloc (.cells #[.int .i64 k, .string t, .slice a n cap] 24)).heap.size by simp]; exact Blk.new _ _ _
  have g0 : W2.cell? ⟨w.heap.size, 0, none⟩ = some (.int .i64 k) := hB 0 _ rfl
  have g1 : W2.cell? ⟨w.heap.size, 1, none⟩ = some (.string t) := hB 1 _ rfl
  have g2 : W2.cell? ⟨w.heap.size, 2, none⟩ = some (.slice a n cap) := hB 2 _ rfl
  have i0 : W2.cell? ⟨w.heap.size + 1, 0, none⟩ = some (.int .i64 0) := hC 0 _ rfl
  have i1 : W2.cell? ⟨w.heap.size + 1, 1, none⟩ = some (.string ⟨#[]⟩) := hC 1 _ rfl
  have i2 : W2.cell? ⟨w.heap.size + 1, 2, none⟩ = some (.slice none 0 0) := hC 2 _ rfl
  have y0 := hfC.frz 0 none
  have y1 := hfC.frz 1 none
  have y2 := hfC.frz 2 none
  replace hW2 := Lib.hid hW2
  clear hB hC
  have hr2 := hr.below hb2
  obtain ⟨H, hH⟩ : ∃ H, H = hasF fs name := ⟨_, rfl⟩
  have hlen := dropF_len hs name
  rw [← hH]
  rw [← hH, hl] at hlen
  replace hr2 := Lib.hid hr2
  replace hH := Lib.hid hH
  replace hs := Lib.hid hs
  replace hl := Lib.hid hl
  obtain ⟨o, ho⟩ : ∃ o, o = W2.heap.size := ⟨_, rfl⟩
  obtain ⟨W5, hW5⟩ : ∃ W5, W5 = W2.alloc (.cells #[.int .i64 k, .string ⟨#[]⟩, .slice none 0 0] 24) := ⟨_, rfl⟩
  have hb25 : Below W2.heap.size W2 W5 := by rw [hW5]; exact (Below.refl _ _).alloc (Nat.le_refl _) _
  have hs5 : W5.heap.size = W2.heap.size + 1 := by rw [hW5]; simp
  have hob : OutB W5 W2.heap.size k (.slice none 0 0) [] := by
    rw [hW5]
    exact ⟨World.ownsRow_nil _ _ _ _, World.cell?_alloc_new _ _ _ 0, World.cell?_alloc_new _ _ _ 1, World.cell?_alloc_new _ _ _ 2, Blk.new _ _ _⟩
  rw [← ho] at hob hs2 hb25 hs5
  have hww : w.heap.size + 1 < o := by omega
  have hww0 : w.heap.size < o := by omega
  replace hs2 := Lib.hid hs2
  replace hs5 := Lib.hid hs5
  clear hr hk
  go_enter Tryd.func25, Tryd.ntmps25
  go_upto_region 1 with fail
  rw [← hW2.out]
  go_upto_region 4 with fail
  rw [← hW5, ← ho]
  replace hW5 := Lib.hid hW5
  have hb25' := hb25
  rw [ho] at hb25'
  replace ho := Lib.hid ho
  replace g0 := bcell hb25' g0
  replace g1 := bcell hb25' g1
  replace g2 := bcell hb25' g2
  replace i0 := bcell hb25' i0
  replace i1 := bcell hb25' i1
  replace i2 := bcell hb25' i2
  replace hfC := hfC.of_block (hb25'.block _ hfC.lt)
  clear y0 y1 y2
  have y0 := hfC.frz 0 none
  have y1 := hfC.frz 1 none
  have y2 := hfC.frz 2 none
  have hi0 := Lib.hid i0
  have hi1 := Lib.hid i1
  have hi2 := Lib.hid i2
  have hg2 := Lib.hid g2
  have hiC := hfC
  clear hb25'
  go_wp2_with fail
  go_loopw [21] (fun i wr => ∃ (j : Nat) (v : Value) (out : List Fld), j ≤ n ∧ i = .int .i64 j ∧ out = dropF (fs.take j) name ∧ OutB wr o k v out ∧ Below o W5 wr) (fun i _ => n - (intOf i).toNat)
  case atStart => exact ⟨0, _, [], Nat.zero_le _, rfl, rfl, hob, Below.refl _ _⟩
  case round =>
    obtain ⟨j, v, out, hj, rfl, hPR, ob, hbelr⟩ := hrel
    clear g0 g1 g2 i0 i1 i2 y0 y1 y2
    have hm8 : out.length ≤ j := by rw [hPR]; unfold dropF; exact Nat.le_trans (List.length_filter_le _ _) (List.length_take_le _ _)
    have hm9 : out.length < 1000000000 := by omega
    by_cases hlt : j < n
    · have hb2r := hb25.trans hbelr
      obtain ⟨b, o', f, hf, rfl, d0, d1⟩ := hr2.out.at hlt
      have hbo : b < o := by rw [ho.out]; exact World.block_lt_of_cell? _ _ d0
      replace d0 := bcellB hb2r hbo d0
      replace d1 := bcellB hb2r hbo d1
      obtain ⟨W6, hW6⟩ : ∃ W6, W6 = wr.alloc (.cells #[.string f.1, .string f.2] 30) := ⟨_, rfl⟩
      have hb6 : Below wr.heap.size wr W6 := by rw [hW6]; exact (Below.refl _ _).alloc (Nat.le_refl _) _
      have p0 : W6.cell? ⟨wr.heap.size, 0, none⟩ = some (.string f.1) := by rw [hW6, World.cell?_alloc_new]; rfl
      have p1 : W6.cell? ⟨wr.heap.size, 1, none⟩ = some (.string f.2) := by rw [hW6, World.cell?_alloc_new]; rfl
      have hpo : ¬ (wr.heap.size = o) := by have := ob.blk.lt; omega
      have ob6 := ob.below hb6
      have hbel6 : Below o W5 W6 := hbelr.trans (hb6.mono (by have := ob.blk.lt; omega))
      have hst := dropF_take hf name
      go_upto_region 7 with fail
      rw [← hW6]
      clear d0 d1 hb2r hb6 ob hbelr
      replace hW6 := Lib.hid hW6
      replace hf := Lib.hid hf
      by_cases hne1 : f.1 = name
      · rw [if_pos hne1, ← hPR] at hst
        have hb1 := str_eq hne1
        have hb2' : (f.1.toList != name.toList) = false := by simp only [bne, hb1]; rfl
        replace hst := Lib.hid hst
        replace hPR := Lib.hid hPR
        replace hne1 := Lib.hid hne1
        go_wp2
        go_roundw
        case rel => exact ⟨j + 1, v, out, by omega, by go_num, hst.out.symm, ob6, hbel6⟩
        case measure => simp [intOf]; omega
      · rw [if_neg hne1, ← hPR] at hst
        have hb1 := str_ne hne1
        have hb2' : (f.1.toList != name.toList) = true := by simp only [bne, hb1]; rfl
        replace hst := Lib.hid hst
        replace hPR := Lib.hid hPR
        replace hne1 := Lib.hid hne1
        have hne := ob6.ne
        have oc2 := ob6.c2
        have hlo := ob6.size
        go_wp2_with (at_builtin; refine append_elem rfl rfl eFld rfl ob6.own rfl rfl rfl hm9 hlo ?_)
        intro v1 w1 hown1 hf1
        obtain ⟨a1, c1, rfl⟩ := (Reads.of_owns hown1).shape
        have ob1 := ob6
        have ob2 := ob1.push (f := f) hown1 hf1
        obtain ⟨ob2, hf2⟩ := ob2
        have oc3 := hf1.cell oc2 hne
        have oz3 := (ob1.blk.fr hf1 hne).frz 2 none
        clear oc2 hown1
        go_upto_region 9 with fail
        clear oc3 oz3 hf1
        generalize (w1.setCell ⟨o, 2, none⟩ (Value.slice a1 _ c1)) = wc at *
        clear w1
        have hbelc : Below o W5 wc := hbel6.trans (hf2.below (by have := ob6.blk.lt; omega) (fun i hi h => ob6.low i hi h))
        clear p0 p1 hb1 hb2' hf2
        go_wp2
        go_roundw
        case rel => exact ⟨j + 1, _, out ++ [f], by omega, by go_num, hst.out.symm, ob2, hbelc⟩
        case measure => simp [intOf]; omega
    · have hjn : j = n := by omega
      subst hjn
      rw [List.take_of_length_le (by rw [hl.out]; exact Nat.le_refl _)] at hPR
      obtain ⟨av, cv, rfl⟩ := (Reads.of_owns ob.own).shape
      have j0 := bcellB hbelr hww hi0.out
      have j1 := bcellB hbelr hww hi1.out
      have j2 := bcellB hbelr hww hi2.out
      have u2 := bcellB hbelr hww0 hg2.out
      have hj9 := hiC.of_block (hbelr.block _ hww)
      have x0 := hj9.frz 0 none
      have x1 := hj9.frz 1 none
      have x2 := hj9.frz 2 none
      have n0 := ob.c0
      have n1 := ob.c1
      have n2 := ob.c2
      have nz0 := ob.blk.frz 0 none
      have nz1 := ob.blk.frz 1 none
      have nz2 := ob.blk.frz 2 none
      have hown := ob.own
      have hbelw : Below w.heap.size w wr := hb2.trans ((hb25.trans hbelr).mono (by omega))
      have hne1 : ¬ (o = w.heap.size + 1) := by omega
      rw [← hPR] at hlen
      have hfin := set3 hbelw
      have hD1 : ((out.length : Int) == 0) = false := by have h9 := hD0.out; rw [← hPR] at h9; exact beq_eq_false_iff_ne.2 (by omega)
      have hrf : RF wr av out.length cv (dropF fs name) := by rw [← hPR]; exact RF.of_owns ob.own
      have hob9 := owns_block hown
      replace hob9 := Lib.hid hob9
      replace hown := Lib.hid hown
      replace hrf := Lib.hid hrf
      replace hfin := Lib.hid hfin
      replace hPR := Lib.hid hPR
      clear hj9 ob hbelw
      cases H with
      | true =>
        have hc9 : out.length < j := by simp at hlen; omega
        replace hlen := Lib.hid hlen
        go_wp2_with fail
        refine bodyPost_ret (v := .tuple #[.agg #[.int .i64 k, .string ⟨#[]⟩, .slice av out.length cv], .bool true, .int .i64 0]) (by simp [results, Tryd.results25, go_sem, j0, j1, j2]) rfl ⟨av, out.length, cv, rfl, ?_, hfin.out _ _ _⟩
        rw [← hPR.out]
        exact owns_mono (owns_fr hown.out (fr3 w.heap.size _ _ _ _) (fun q hq => by have h1 := (hob9.out q hq).1; show ¬ (q = w.heap.size + 1); omega)) (by omega)
      | false =>
        have hc9 : ¬ out.length < j := by simp at hlen; omega
        replace hlen := Lib.hid hlen
        go_wp2_with fail
        refine bodyPost_ret (v := .tuple #[.agg #[.int .i64 k, .string ⟨#[]⟩, .slice av out.length cv], .bool false, .int .i64 0]) (by simp [results, Tryd.results25, go_sem, j0, j1, j2]) rfl ⟨av, out.length, cv, rfl, ?_, hfin.out _ _ _⟩
        rw [← hPR.out]
        exact owns_mono (owns_fr hown.out (fr3 w.heap.size _ _ _ _) (fun q hq => by have h1 := (hob9.out q hq).1; show ¬ (q = w.heap.size + 1); omega)) (by omega)
theorem set33 {w wr : World} {o : Nat} (hb : Below w.heap.size w wr) (ho : w.heap.size ≤ o) (x y z x' y' z' : Value) : Below w.heap.size w ((((((wr.setCell ⟨o, 0, none⟩ x).setCell ⟨o, 1, none⟩ y).setCell ⟨o, 2, none⟩ z).setCell ⟨w.heap.size + 1, 0, none⟩ x').setCell ⟨w.heap.size + 1, 1, none⟩ y').setCell ⟨w.heap.size + 1, 2, none⟩ z') :=
  set3 (((hb.setCell ho x).setCell ho y).setCell ho z) x' y' z'
set_option maxRecDepth 100000 in
set_option maxHeartbeats 12800000 in
theorem rdrop_nil (k : Int) (t : ByteArray) (a : Option Addr) (n cap : Nat) (fs : List Fld) (name : ByteArray) (w : World) (hk : k ≠ 1) (hr : RF w a n cap fs) (hs : Srt fs) (hn : n ≤ 100000) (hD : dropF fs name = []) :
    Calls Tryd.prog 25 #[.agg #[.int .i64 k, .string t, .slice a n cap], .string name] w fun e w' => e = .returned (.tuple #[.agg #[.int .i64 0, .string ⟨#[]⟩, .slice none 0 0], .bool (hasF fs name), .int .i64 0]) ∧ Below w.heap.size w w' := by
  replace hD := Lib.hid hD
  have hl := hr.len
  have hk1 : (k == 1) = false := by simpa using hk
  obtain ⟨W2, hW2⟩ : ∃ W2, W2 = (w.alloc (.cells #[.int .i64 k, .string t, .slice a n cap] 24)).alloc (.cells #[.int .i64 0, .string ⟨#[]⟩, .slice none 0 0] 24) := ⟨_, rfl⟩
  have hb2 : Below w.heap.size w W2 := by rw [hW2]; exact ((Below.refl _ _).alloc (Nat.le_refl _) _).alloc (by simp) _
  have hs2 : W2.heap.size = w.heap.size + 2 := by rw [hW2]; simp
  have hB : ∀ q u, #[.int .i64 k, .string t, .slice a n cap][q]? = some u → W2.cell? ⟨w.heap.size, q, none⟩ = some u := fun q u h => by rw [hW2, World.cell?_alloc_past _ _ _ (by simp), World.cell?_alloc_new]; exact h
  have hC : ∀ q u, #[.int .i64 0, .string ⟨#[]⟩, .slice none 0 0][q]? = some u → W2.cell? ⟨w.heap.size + 1, q, none⟩ = some u := fun q u h => by
    rw [hW2, show w.heap.size + 1 = (w.alloc (.cells #[.int .i64 k, .string t, .slice a n cap] 24)).heap.size by simp, World.cell?_alloc_new]; exact h
  have hfC : Blk W2 (w.heap.size + 1) := by rw [hW2, show w.heap.size + 1 = (w.alloc (.cells #[.int .i64 k, .string t, .slice a n cap] 24)).heap.size by simp]; exact Blk.new _ _ _
  have g0 : W2.cell? ⟨w.heap.size, 0, none⟩ = some (.int .i64 k) := hB 0 _ rfl
  have g1 : W2.cell? ⟨w.heap.size, 1, none⟩ = some (.string t) := hB 1 _ rfl
  have g2 : W2.cell? ⟨w.heap.size, 2, none⟩ = some (.slice a n cap) := hB 2 _ rfl
  have i0 : W2.cell? ⟨w.heap.size + 1, 0, none⟩ = some (.int .i64 0) := hC 0 _ rfl
  have i1 : W2.cell? ⟨w.heap.size + 1, 1, none⟩ = some (.string ⟨#[]⟩) := hC 1 _ rfl
  have i2 : W2.cell? ⟨w.heap.size + 1, 2, none⟩ = some (.slice none 0 0) := hC 2 _ rfl
  have y0 := hfC.frz 0 none
  have y1 := hfC.frz 1 none
  have y2 := hfC.frz 2 none
  replace hW2 := Lib.hid hW2
  clear hB hC
  have hr2 := hr.below hb2
  obtain ⟨H, hH⟩ : ∃ H, H = hasF fs name := ⟨_, rfl⟩
  have hlen := dropF_len hs name
  rw [← hH]
  rw [← hH, hl] at hlen
  replace hr2 := Lib.hid hr2
  replace hH := Lib.hid hH
  replace hs := Lib.hid hs
  replace hl := Lib.hid hl
  obtain ⟨o, ho⟩ : ∃ o, o = W2.heap.size := ⟨_, rfl⟩
  obtain ⟨W5, hW5⟩ : ∃ W5, W5 = W2.alloc (.cells #[.int .i64 k, .string ⟨#[]⟩, .slice none 0 0] 24) := ⟨_, rfl⟩
  have hb25 : Below W2.heap.size W2 W5 := by rw [hW5]; exact (Below.refl _ _).alloc (Nat.le_refl _) _
  have hs5 : W5.heap.size = W2.heap.size + 1 := by rw [hW5]; simp
  have hob : OutB W5 W2.heap.size k (.slice none 0 0) [] := by
    rw [hW5]
    exact ⟨World.ownsRow_nil _ _ _ _, World.cell?_alloc_new _ _ _ 0, World.cell?_alloc_new _ _ _ 1, World.cell?_alloc_new _ _ _ 2, Blk.new _ _ _⟩
  rw [← ho] at hob hs2 hb25 hs5
  have hww : w.heap.size + 1 < o := by omega
  have hww0 : w.heap.size < o := by omega
  replace hs2 := Lib.hid hs2
  replace hs5 := Lib.hid hs5
  clear hr hk
  go_enter Tryd.func25, Tryd.ntmps25
  go_upto_region 1 with fail
  rw [← hW2.out]
  go_upto_region 4 with fail
  rw [← hW5, ← ho]
  replace hW5 := Lib.hid hW5
  have hb25' := hb25
  rw [ho] at hb25'
  replace ho := Lib.hid ho
  replace g0 := bcell hb25' g0
  replace g1 := bcell hb25' g1
  replace g2 := bcell hb25' g2
  replace i0 := bcell hb25' i0
  replace i1 := bcell hb25' i1
  replace i2 := bcell hb25' i2
  replace hfC := hfC.of_block (hb25'.block _ hfC.lt)
  clear y0 y1 y2
  have y0 := hfC.frz 0 none
  have y1 := hfC.frz 1 none
  have y2 := hfC.frz 2 none
  have hi0 := Lib.hid i0
  have hi1 := Lib.hid i1
  have hi2 := Lib.hid i2
  have hg2 := Lib.hid g2
  have hiC := hfC
  clear hb25'
  go_wp2_with fail
  go_loopw [21] (fun i wr => ∃ (j : Nat) (v : Value) (out : List Fld), j ≤ n ∧ i = .int .i64 j ∧ out = dropF (fs.take j) name ∧ OutB wr o k v out ∧ Below o W5 wr) (fun i _ => n - (intOf i).toNat)
  case atStart => exact ⟨0, _, [], Nat.zero_le _, rfl, rfl, hob, Below.refl _ _⟩
  case round =>
    obtain ⟨j, v, out, hj, rfl, hPR, ob, hbelr⟩ := hrel
    clear g0 g1 g2 i0 i1 i2 y0 y1 y2
    have hm8 : out.length ≤ j := by rw [hPR]; unfold dropF; exact Nat.le_trans (List.length_filter_le _ _) (List.length_take_le _ _)
    have hm9 : out.length < 1000000000 := by omega
    by_cases hlt : j < n
    · have hb2r := hb25.trans hbelr
      obtain ⟨b, o', f, hf, rfl, d0, d1⟩ := hr2.out.at hlt
      have hbo : b < o := by rw [ho.out]; exact World.block_lt_of_cell? _ _ d0
      replace d0 := bcellB hb2r hbo d0
      replace d1 := bcellB hb2r hbo d1
      obtain ⟨W6, hW6⟩ : ∃ W6, W6 = wr.alloc (.cells #[.string f.1, .string f.2] 30) := ⟨_, rfl⟩
      have hb6 : Below wr.heap.size wr W6 := by rw [hW6]; exact (Below.refl _ _).alloc (Nat.le_refl _) _
      have p0 : W6.cell? ⟨wr.heap.size, 0, none⟩ = some (.string f.1) := by rw [hW6, World.cell?_alloc_new]; rfl
      have p1 : W6.cell? ⟨wr.heap.size, 1, none⟩ = some (.string f.2) := by rw [hW6, World.cell?_alloc_new]; rfl
      have hpo : ¬ (wr.heap.size = o) := by have := ob.blk.lt; omega
      have ob6 := ob.below hb6
      have hbel6 : Below o W5 W6 := hbelr.trans (hb6.mono (by have := ob.blk.lt; omega))
      have hst := dropF_take hf name
      go_upto_region 7 with fail
      rw [← hW6]
      clear d0 d1 hb2r hb6 ob hbelr
      replace hW6 := Lib.hid hW6
      replace hf := Lib.hid hf
      by_cases hne1 : f.1 = name
      · rw [if_pos hne1, ← hPR] at hst
        have hb1 := str_eq hne1
        have hb2' : (f.1.toList != name.toList) = false := by simp only [bne, hb1]; rfl
        replace hst := Lib.hid hst
        replace hPR := Lib.hid hPR
        replace hne1 := Lib.hid hne1
        go_wp2
        go_roundw
        case rel => exact ⟨j + 1, v, out, by omega, by go_num, hst.out.symm, ob6, hbel6⟩
        case measure => simp [intOf]; omega
      · rw [if_neg hne1, ← hPR] at hst
        have hb1 := str_ne hne1
        have hb2' : (f.1.toList != name.toList) = true := by simp only [bne, hb1]; rfl
        replace hst := Lib.hid hst
        replace hPR := Lib.hid hPR
        replace hne1 := Lib.hid hne1
        have hne := ob6.ne
        have oc2 := ob6.c2
        have hlo := ob6.size
        go_wp2_with (at_builtin; refine append_elem rfl rfl eFld rfl ob6.own rfl rfl rfl hm9 hlo ?_)
        intro v1 w1 hown1 hf1
        obtain ⟨a1, c1, rfl⟩ := (Reads.of_owns hown1).shape
        have ob1 := ob6
        have ob2 := ob1.push (f := f) hown1 hf1
        obtain ⟨ob2, hf2⟩ := ob2
        have oc3 := hf1.cell oc2 hne
        have oz3 := (ob1.blk.fr hf1 hne).frz 2 none
        clear oc2 hown1
        go_upto_region 9 with fail
        clear oc3 oz3 hf1
        generalize (w1.setCell ⟨o, 2, none⟩ (Value.slice a1 _ c1)) = wc at *
        clear w1
        have hbelc : Below o W5 wc := hbel6.trans (hf2.below (by have := ob6.blk.lt; omega) (fun i hi h => ob6.low i hi h))
        clear p0 p1 hb1 hb2' hf2
        go_wp2
        go_roundw
        case rel => exact ⟨j + 1, _, out ++ [f], by omega, by go_num, hst.out.symm, ob2, hbelc⟩
        case measure => simp [intOf]; omega
    · have hjn : j = n := by omega
      subst hjn
      rw [List.take_of_length_le (by rw [hl.out]; exact Nat.le_refl _)] at hPR
      obtain ⟨av, cv, rfl⟩ := (Reads.of_owns ob.own).shape
      have j0 := bcellB hbelr hww hi0.out
      have j1 := bcellB hbelr hww hi1.out
      have j2 := bcellB hbelr hww hi2.out
      have u2 := bcellB hbelr hww0 hg2.out
      have hj9 := hiC.of_block (hbelr.block _ hww)
      have x0 := hj9.frz 0 none
      have x1 := hj9.frz 1 none
      have x2 := hj9.frz 2 none
      have n0 := ob.c0
      have n1 := ob.c1
      have n2 := ob.c2
      have nz0 := ob.blk.frz 0 none
      have nz1 := ob.blk.frz 1 none
      have nz2 := ob.blk.frz 2 none
      have hown := ob.own
      have hbelw : Below w.heap.size w wr := hb2.trans ((hb25.trans hbelr).mono (by omega))
      have hne1 : ¬ (o = w.heap.size + 1) := by omega
      rw [← hPR] at hlen
      have hfin := set33 hbelw (show w.heap.size ≤ o by omega)
      have hout : out = [] := by rw [hPR]; exact hD.out
      subst hout
      replace hown := Lib.hid hown
      replace hfin := Lib.hid hfin
      replace hPR := Lib.hid hPR
      clear hj9 ob hbelw
      simp only [List.length_nil] at n2 hlen
      cases H with
      | true =>
        have hc9 : 0 < j := by simp at hlen; omega
        replace hlen := Lib.hid hlen
        go_wp2_with fail
        refine bodyPost_ret (v := .tuple #[.agg #[.int .i64 0, .string ⟨#[]⟩, .slice none 0 0], .bool true, .int .i64 0]) (by simp [results, Tryd.results25, go_sem, j0, j1, j2]) rfl ⟨rfl, hfin.out _ _ _ _ _ _⟩
      | false =>
        have hc9 : j = 0 := by simp at hlen; omega
        subst hc9
        replace hlen := Lib.hid hlen
        go_wp2_with fail
        refine bodyPost_ret (v := .tuple #[.agg #[.int .i64 0, .string ⟨#[]⟩, .slice none 0 0], .bool false, .int .i64 0]) (by simp [results, Tryd.results25, go_sem, j0, j1, j2]) rfl ⟨rfl, hfin.out _ _ _ _ _ _⟩
end Go.Proofs.YteoalcmhdoopnaaDoor
