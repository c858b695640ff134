/- The document's answer for layer 23: the calls that ask. -/
import Derived.Test.YtlddjcfbapdjnaaRef23
namespace Go.Proofs.Ytlddjcfbapdjnaa
open Go.RowKit

def findI (es : List (ByteArray × V)) (k : ByteArray) : Int := match es.findIdx? (fun p => decide (p.1 = k)) with
  | some i => i
  | none => -1
theorem findI_spec (es : List (ByteArray × V)) (k : ByteArray) : (lookE es k = none ∧ findI es k = -1) ∨ ∃ (i : Nat) (hi : i < es.length), findI es k = i ∧ es[i].1 = k ∧ lookE es k = some es[i].2 ∧ ∀ j (hj : j < i), (es[j]'(by omega)).1 ≠ k := by
  cases h : es.findIdx? (fun p => decide (p.1 = k)) with
  | none =>
    refine Or.inl ⟨?_, by simp [findI, h]⟩
    rw [List.findIdx?_eq_none_iff] at h
    rw [lookE_none]
    intro hm
    obtain ⟨p, hp, e⟩ := List.mem_map.1 hm
    have := h p hp
    simp [e] at this
  | some i =>
    have hx := List.findIdx?_eq_some_iff_getElem.1 h
    obtain ⟨hi, h1, h2⟩ := hx
    refine Or.inr ⟨i, hi, by simp [findI, h], by simpa using h1, ?_, fun j hj => by simpa using h2 j hj⟩
    have : es.find? (fun p => decide (p.1 = k)) = some es[i] := by
      rw [List.find?_eq_some_iff_getElem]
      exact ⟨h1, i, hi, rfl, fun j hj => by simpa using h2 j hj⟩
    simp [lookE, this]
theorem owns_some {w : World} {base e size n cap : Nat} {a : Option Addr} {xs : List Value} (h : w.ownsRow base e size (.slice a n cap) n xs) (hn : 0 < n) : ∃ g, a = some ⟨g, 0, none⟩ := by
  obtain ⟨_, h | ⟨g, c, cur, h, _⟩⟩ := h
  · omega
  · cases h; exact ⟨g, rfl⟩

set_option maxRecDepth 100000 in
set_option maxHeartbeats 1600000 in
theorem ref_find {c : Addr → Option Value} {W : World} {r : Nat} {sE sT : Value} {s : NS} (h : RN c W r sE sT s) (k : ByteArray) (hn : s.es.length < 1000000) :
    Calls Try.prog 53 #[P0 r, .string k] W fun e w' => e = .returned (.int .i64 (findI s.es k)) ∧ Below W.heap.size W w' := by
  obtain ⟨css, h1, h2⟩ := h.es
  obtain ⟨ae, ce, rfl⟩ := (Reads.of_owns h2).shape
  have c0 := h.c0
  have hrl := h.blk.lt
  have hsp := findI_spec s.es k
  obtain ⟨n, hne⟩ : ∃ n, n = s.es.length := ⟨_, rfl⟩
  rw [← hne] at h2 c0 hn
  replace h1 := Lib.hid h1
  replace hne := Lib.hid hne
  replace hsp := Lib.hid hsp
  clear h
  go_enter Try.func53, Try.ntmps53
  go_wp2_with fail
  go_loopw [12] (fun s12 wr => ∃ j : Nat, j ≤ n ∧ s12 = .int .i64 j ∧ (∀ i (hi : i < s.es.length), i < j → s.es[i].1 ≠ k) ∧ Below W.heap.size W wr) (fun s12 _ => n - (intOf s12).toNat)
  case atStart => exact ⟨0, Nat.zero_le _, rfl, (fun i hi h => absurd h (by omega)), Below.refl _ _⟩
  case round =>
    obtain ⟨j, hj, rfl, hno, hbel⟩ := hrel
    replace hno := Lib.hid hno
    have c0r := cell_below hbel _ _ c0
    by_cases hlt : j < n
    · obtain ⟨g, rfl⟩ := owns_some h2 (by omega)
      have hjl : j < s.es.length := by have := hne.out; omega
      obtain ⟨a, cap', _, d0, d1, d2, d3, d4, d5, d6⟩ := h1.out.elem hne.out h2 hjl
      obtain ⟨p, hp⟩ : ∃ p, p = s.es[j] := ⟨_, rfl⟩
      rw [← hp] at d0 d1 d2 d3 d4 d5 d6
      replace d0 := cell_below hbel _ _ d0
      replace d1 := cell_below hbel _ _ d1
      replace d2 := cell_below hbel _ _ d2
      replace d3 := cell_below hbel _ _ d3
      replace d4 := cell_below hbel _ _ d4
      replace d5 := cell_below hbel _ _ d5
      replace d6 := cell_below hbel _ _ d6
      have i0 : (0 : Int) ≤ (j : Int) := by omega
      have i1 : (j : Int) < (n : Int) := by omega
      by_cases hk : p.1 = k
      · have e := str_eq hk
        have hfin : findI s.es k = j := by
          rcases hsp.out with ⟨h3, _⟩ | ⟨i, hi, h3, h4, _, h6⟩
          · exact absurd (by rw [← hk, hp]; exact List.mem_map.2 ⟨_, List.getElem_mem hjl, rfl⟩) (lookE_none.1 h3)
          · rcases Nat.lt_trichotomy i j with hij | rfl | hij
            · exact absurd h4 (hno.out i hi hij)
            · exact h3
            · exact absurd (by rw [← hp]; exact hk) (h6 j hij)
        replace hfin := Lib.hid hfin
        replace hp := Lib.hid hp
        replace hk := Lib.hid hk
        clear h2 c0
        go_wp2
        go_ret
        exact ⟨by rw [hfin.out]; rfl, hbel.alloc hbel.size _⟩
      · have e := str_ne hk
        replace hp := Lib.hid hp
        replace hk := Lib.hid hk
        clear h2 c0
        go_wp2
        go_roundw
        case rel => exact ⟨j + 1, by omega, by go_num, (fun i hi hij => by
          rcases Nat.lt_or_ge i j with h | h
          · exact hno.out i hi h
          · obtain rfl : i = j := by omega
            rw [← hp.out]; exact hk.out), hbel.alloc hbel.size _⟩
        case measure => simp [intOf]; omega
    · have hfin : findI s.es k = -1 := by
        rcases hsp.out with ⟨_, h3⟩ | ⟨i, hi, h3, h4, _⟩
        · exact h3
        · exact absurd h4 (hno.out i hi (by have := hne.out; omega))
      replace hfin := Lib.hid hfin
      clear h2 c0
      go_wp2
      go_ret
      exact ⟨by rw [hfin.out]; rfl, hbel⟩

abbrev zero7 : Array Value := #[.int .i64 0, .string ⟨#[]⟩, .int .i64 0, .float .f64 0, .bool false, .slice none 0 0]
/-- The result's box, made ahead: what holds of it behind whatever has left it alone. -/
structure RBox (w : World) (b : Nat) : Prop where
  cells : w.rangeAt b 0 zero6
  blk : Blk w b
theorem RBox.new (w : World) : RBox (w.alloc (.cells zero7 44)) w.heap.size :=
  ⟨range6 (by rw [World.cell?_alloc_new]; rfl) (by rw [World.cell?_alloc_new]; rfl) (by rw [World.cell?_alloc_new]; rfl) (by rw [World.cell?_alloc_new]; rfl) (by rw [World.cell?_alloc_new]; rfl) (by rw [World.cell?_alloc_new]; rfl), Blk.new _ _ _⟩
theorem RBox.fr {w w' : World} {b : Nat} (h : RBox w b) {S : Nat → Prop} (hf : Fr S w w') (hS : ¬ S b) : RBox w' b := ⟨fun j v hv => hf.cell (h.cells j v hv) hS, h.blk.fr hf hS⟩
theorem RBox.below {w w' : World} {b : Nat} (h : RBox w b) (hb : Below w.heap.size w w') : RBox w' b := h.fr (Fr.of_below hb) (by have := h.blk.lt; omega)
theorem RBox.there {w : World} {b : Nat} (h : RBox w b) : w.there b 0 6 := there_of (n := 6) h.cells h.blk rfl
theorem RBox.put {w : World} {b : Nat} (h : RBox w b) {cs : List Value} (hc : cs.length = 6) : (w.setCells b 0 cs).rangeAt b 0 cs ∧ Fr (fun x => x = b) w (w.setCells b 0 cs) :=
  ⟨World.rangeAt_setCells_same _ _ _ _ (by rw [hc]; exact h.there), Fr.setCells (S := fun x => x = b) (fun _ => rfl) _ _ _ (Fr.refl _ w)⟩

set_option maxRecDepth 100000 in
set_option maxHeartbeats 1600000 in
theorem ref_peek {c : Addr → Option Value} {W : World} {r : Nat} {sE sT : Value} {s : NS} (h : RN c W r sE sT s) (k : ByteArray) (hn : s.es.length < 1000000) :
    Calls Try.prog 43 #[P0 r, .string k] W fun e w' => ∃ cs : List Value, e = .returned (.tuple #[.agg cs.toArray, .bool (lookE s.es k).isSome]) ∧ RV c cs ((lookE s.es k).getD V.zero) ∧ Below W.heap.size W w' := by
  obtain ⟨W1, hW1⟩ : ∃ W1, W1 = W.alloc (.cells zero7 44) := ⟨_, rfl⟩
  have hb1 : Below W.heap.size W W1 := by rw [hW1]; exact (Below.refl _ _).alloc (Nat.le_refl _) _
  have hx : RBox W1 W.heap.size := by rw [hW1]; exact RBox.new W
  have h1 := h.below hb1
  have hsp := findI_spec s.es k
  replace hW1 := Lib.hid hW1
  replace h1 := Lib.hid h1
  replace hsp := Lib.hid hsp
  replace h := Lib.hid h
  go_enter Try.func43, Try.ntmps43
  go_wp2_with fail
  rw [← hW1.out]
  refine (ref_find h1.out k hn).mono ?_
  rintro e w2 ⟨rfl, hb2⟩
  have h2 := h1.out.below hb2
  have hx2 := hx.below hb2
  have hbw := hb1.trans (hb2.mono hb1.size)
  have ht := hx2.there
  replace ht := Lib.hid ht
  rcases hsp.out with ⟨hlk, hfi⟩ | ⟨i, hi, hfi, hk, hlk, _⟩
  · rw [hfi]
    clear hsp
    obtain ⟨hr, hf⟩ := hx2.put (cs := [.int .i64 0, .string ⟨#[]⟩, .int .i64 0, .float .f64 0, .bool false, .slice none 0 0]) rfl
    replace hr := Lib.hid hr
    replace h2 := Lib.hid h2
    replace hlk := Lib.hid hlk
    replace hfi := Lib.hid hfi
    go_wp2_with (first
      | (refine wpList_store_mid rfl 44 _ _ rfl W.heap.size 0 _ rfl rfl ht.out infoVal (one6 _ _ _ _ _ _ _ _) ?_))
    exact bodyPost_ret (results_cell2 (v := .agg #[.int .i64 0, .string ⟨#[]⟩, .int .i64 0, .float .f64 0, .bool false, .slice none 0 0]) rfl rfl (run_loadVar_mid (P := Try.prog) _ _ 0 44 _ _ hr.out Try.underlying44 rfl infoVal)) rfl
      ⟨[.int .i64 0, .string ⟨#[]⟩, .int .i64 0, .float .f64 0, .bool false, .slice none 0 0], by rw [hlk.out]; rfl, by rw [hlk.out]; exact RV.leaf _ 0 ⟨#[]⟩ 0 0 false none 0, hbw.trans (hf.below hbw.size (fun i hi h => by omega))⟩
  · rw [hfi]
    obtain ⟨css, e1, e2⟩ := h2.es
    obtain ⟨ae, ce, rfl⟩ := (Reads.of_owns e2).shape
    obtain ⟨g, rfl⟩ := owns_some e2 (by omega)
    have c0 := h2.c0
    obtain ⟨a, cap', hrv, d0, d1, d2, d3, d4, d5, d6⟩ := e1.elem rfl e2 hi
    generalize s.es[i].2 = v at *
    obtain ⟨n, hne⟩ : ∃ n, n = s.es.length := ⟨_, rfl⟩
    rw [← hne] at c0 hi
    have i0 : (0 : Int) ≤ (i : Int) := by omega
    have i1 : (i : Int) < (n : Int) := by omega
    obtain ⟨hr, hf⟩ := hx2.put (cs := [.int .i64 v.kind, .string v.text, .int .i64 v.int, .float .f64 v.real, .bool v.flag, .slice a v.list.length cap']) rfl
    replace hr := Lib.hid hr
    replace h2 := Lib.hid h2
    replace hlk := Lib.hid hlk
    replace hfi := Lib.hid hfi
    replace hne := Lib.hid hne
    replace hk := Lib.hid hk
    replace hrv := Lib.hid hrv
    clear hsp e2 e1
    go_wp2_with (first
      | (refine wpList_store_mid rfl 44 _ _ rfl W.heap.size 0 _ rfl rfl ht.out infoVal (one6 _ _ _ _ _ _ _ _) ?_))
    exact bodyPost_ret (results_cell2 (v := .agg #[.int .i64 v.kind, .string v.text, .int .i64 v.int, .float .f64 v.real, .bool v.flag, .slice a v.list.length cap']) rfl rfl (run_loadVar_mid (P := Try.prog) _ _ 0 44 _ _ hr.out Try.underlying44 rfl infoVal)) rfl
      ⟨cells6 v.kind v.text v.int v.real v.flag a v.list.length cap', by rw [hlk.out]; rfl, by rw [hlk.out]; exact hrv.out, hbw.trans (hf.below hbw.size (fun i hi h => by omega))⟩

theorem ref_new (c : Addr → Option Value) (most : Int) (w : World) : Calls Try.prog 37 #[.int .i64 most] w fun e w' => ∃ r, e = .returned (P0 r) ∧ RN c w' r (.slice none 0 0) (.slice none 0 0) ⟨[], [], 0, max most 0⟩ ∧ Below w.heap.size w w' ∧ w.heap.size ≤ r := by
  have key : ∀ m : Int, RN c (w.alloc (.cells #[.slice none 0 0, .slice none 0 0, .int .i64 0, .int .i64 m] 71)) w.heap.size (.slice none 0 0) (.slice none 0 0) ⟨[], [], 0, m⟩ := fun m =>
    ⟨by rw [World.cell?_alloc_new]; rfl, by rw [World.cell?_alloc_new]; rfl, by rw [World.cell?_alloc_new]; rfl, by rw [World.cell?_alloc_new]; rfl, Blk.new _ _ _, ⟨[], EL.nil c, World.ownsRow_nil _ _ _ _⟩, World.ownsRow_nil _ _ _ _, fun k hk => by cases hk⟩
  have hal := fun o => (Below.refl w.heap.size w).alloc (Nat.le_refl _) o
  replace key := Lib.hid key
  replace hal := Lib.hid hal
  by_cases hmost : most < 0
  · rw [show max most 0 = 0 by omega]
    go_enter Try.func37, Try.ntmps37
    go_wp2
    go_ret
    exact ⟨_, rfl, key.out 0, hal.out _, Nat.le_refl _⟩
  · rw [show max most 0 = most by omega]
    go_enter Try.func37, Try.ntmps37
    go_wp2
    go_ret
    exact ⟨_, rfl, key.out most, hal.out _, Nat.le_refl _⟩

theorem ref_clear {c : Addr → Option Value} {W : World} {r : Nat} {sE sT : Value} {s : NS} (h : RN c W r sE sT s) :
    Calls Try.prog 42 #[P0 r] W fun e w' => e = .returned (.tuple #[]) ∧ RN c w' r (.slice none 0 0) (.slice none 0 0) s.clear ∧ Went W (rfp r sE sT) w' (rfp r (.slice none 0 0) (.slice none 0 0)) ∧ W.heap.size ≤ w'.heap.size := by
  obtain ⟨g1, g2⟩ := h.setE (w1 := W) (v := .slice none 0 0) (css := []) (es' := []) (Fr.refl _ _) (EL.nil c) (World.ownsRow_nil _ _ _ _) (fun k hk => by cases hk)
  obtain ⟨k1, k2⟩ := g1.setT (w1 := W.setCell ⟨r, 0, none⟩ (.slice none 0 0)) (v := .slice none 0 0) (ts' := []) (Fr.refl _ _) (World.ownsRow_nil _ _ _ _) (fun k hk => by cases hk)
  have c0 := h.c0
  have c1 := h.c1
  have z0 := h.blk.frz 0 none
  have z1 := h.blk.frz 1 none
  have c1' := g1.c1
  have z1' := g1.blk.frz 1 none
  replace g1 := Lib.hid g1
  replace k1 := Lib.hid k1
  replace h := Lib.hid h
  have hg := g2.trans k2
  replace hg := Lib.hid hg
  go_enter Try.func42, Try.ntmps42
  go_wp2
  go_end0
  exact ⟨rfl, k1.out, hg.out, by simp⟩
end Go.Proofs.Ytlddjcfbapdjnaa
