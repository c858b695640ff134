/- WordsCases: its walk. -/
import Derived.Test.YtdhojdkeidilfaaDoorCasesP
namespace Go.Proofs.YtdhojdkeidilfaaDoor
open Go.RowKit

def lenV : Value → Nat
  | .slice _ n _ => n
  | _ => 0
set_option maxRecDepth 100000 in
set_option maxHeartbeats 32000000 in
theorem casesL17_any (i n : Int) (w : World) :
    Calls Tryd.prog 4 #[.int .i64 i, .int .i64 n] w fun e w' => e = .returned (.bool true) ∧ Below w.heap.size w w' := by
  have hcv2 := fun w s => run_bytes_of_string (P := Tryd.prog) w 9 30 5 s Tryd.underlying9 Tryd.underlying30 Tryd.underlying5
  rcases Int.lt_or_le i 0 with h1 | h1
  · go_enter Tryd.func4, Tryd.ntmps4
    go_wp2_with fail
    refine (alive17_any w).mono ?_
    rintro e w1 ⟨rfl, hb1⟩
    go_wp2_with fail
    refine (all17_any w1).mono ?_
    rintro e w2 ⟨b, rfl, hb, hB, hT, hb2⟩
    have hb12 := hb1.trans (hb2.mono hb1.size)
    clear hb hB hT hb1 hb2
    go_wp2
    go_ret
    exact ⟨rfl, hb12⟩
  rcases Int.lt_or_le i 39 with h2 | h2
  case inr =>
    have h1' : ¬ i < 0 := by omega
    go_enter Tryd.func4, Tryd.ntmps4
    go_wp2_with fail
    refine (alive17_any w).mono ?_
    rintro e w1 ⟨rfl, hb1⟩
    go_wp2_with fail
    refine (all17_any w1).mono ?_
    rintro e w2 ⟨b, rfl, hb, hB, hT, hb2⟩
    have hb12 := hb1.trans (hb2.mono hb1.size)
    clear hb hB hT hb1 hb2
    go_wp2
    go_ret
    exact ⟨rfl, hb12⟩
  rcases Int.lt_or_le n 1 with h3 | h3
  · have h1' : ¬ i < 0 := by omega
    have h2' : ¬ i ≥ 39 := by omega
    go_enter Tryd.func4, Tryd.ntmps4
    go_wp2_with fail
    refine (alive17_any w).mono ?_
    rintro e w1 ⟨rfl, hb1⟩
    go_wp2_with fail
    refine (all17_any w1).mono ?_
    rintro e w2 ⟨b, rfl, hb, hB, hT, hb2⟩
    have hb12 := hb1.trans (hb2.mono hb1.size)
    clear hb hB hT hb1 hb2
    go_wp2
    go_ret
    exact ⟨rfl, hb12⟩
  rcases Int.lt_or_le 70 n with h4 | h4
  · have h1' : ¬ i < 0 := by omega
    have h2' : ¬ i ≥ 39 := by omega
    have h3' : ¬ n < 1 := by omega
    go_enter Tryd.func4, Tryd.ntmps4
    go_wp2_with fail
    refine (alive17_any w).mono ?_
    rintro e w1 ⟨rfl, hb1⟩
    go_wp2_with fail
    refine (all17_any w1).mono ?_
    rintro e w2 ⟨b, rfl, hb, hB, hT, hb2⟩
    have hb12 := hb1.trans (hb2.mono hb1.size)
    clear hb hB hT hb1 hb2
    go_wp2
    go_ret
    exact ⟨rfl, hb12⟩
  obtain ⟨k, rfl⟩ : ∃ k : Nat, i = k := ⟨i.toNat, by omega⟩
  obtain ⟨m, rfl⟩ : ∃ m : Nat, n = (m : Nat) := ⟨n.toNat, by omega⟩
  have h1' : ¬ (k : Int) < 0 := by omega
  have h2' : ¬ (k : Int) ≥ 39 := by omega
  have h3' : ¬ (m : Int) < 1 := by omega
  have h4' : ¬ (m : Int) > 70 := by omega
  have b1 : decide ((k : Int) < 0) = false := decide_eq_false h1'
  have b2 : decide (39 ≤ (k : Int)) = false := decide_eq_false h2'
  have b3 : decide ((m : Int) < 1) = false := decide_eq_false h3'
  have b4 : decide (70 < (m : Int)) = false := decide_eq_false h4'
  have hk : k < words17.length := by rw [len17]; omega
  go_enter Tryd.func4, Tryd.ntmps4
  go_wp2_with fail
  refine (alive17_any w).mono ?_
  rintro e w1 ⟨rfl, hb1⟩
  go_wp2_with fail
  refine (all17_any w1).mono ?_
  rintro e w2 ⟨b, rfl, hb, hB, hT, hb2⟩
  have hb12 := hb1.trans (hb2.mono hb1.size)
  obtain ⟨d0, d1, d2, d3, d4, d5, d6⟩ := row7 hT hk
  obtain ⟨x, hxq⟩ : ∃ x, x = words17[k]'hk := ⟨_, rfl⟩
  have hxm : x ∈ words17 := by rw [hxq]; exact List.getElem_mem hk
  rw [← hxq] at d0 d1 d2 d3 d4 d5 d6
  clear hT hb hB hb1 hb2 hxq hk
  have hb3 := (Below.refl w2.heap.size w2).alloc (Nat.le_refl _) (.cells #[.string x.name, .int .i64 x.kind, .int .i64 x.least, .int .i64 x.most, .int .i64 x.first, .int .i64 x.last, .int .i64 x.step] 26)
  have hs3 : (w2.alloc (.cells #[.string x.name, .int .i64 x.kind, .int .i64 x.least, .int .i64 x.most, .int .i64 x.first, .int .i64 x.last, .int .i64 x.step] 26)).heap.size = w2.heap.size + 1 := by simp
  have g7 := new7 x w2
  obtain ⟨x0, x1, x2, x3, x4, x5, x6⟩ := cells7 x g7
  have hown0 := World.ownsRow_lit (base := w2.heap.size + 1) (e := 9) (size := 1) (w2.alloc (.cells #[.string x.name, .int .i64 x.kind, .int .i64 x.least, .int .i64 x.most, .int .i64 x.first, .int .i64 x.last, .int .i64 x.step] 26)) #[.string x.name] 1 (by rw [hs3]; exact Nat.le_refl _) (by unfold maxLen; omega) rfl
  rw [hs3] at hown0
  have hb13 := hb12.trans (hb3.mono hb12.size)
  replace hown0 := Lib.hid hown0
  replace g7 := Lib.hid g7
  replace hb13 := Lib.hid hb13
  replace hxm := Lib.hid hxm
  have hw2 : w.heap.size ≤ w2.heap.size := hb12.size
  clear hb12 hb3
  go_wp2_with fail
  have hb34 := (Below.refl (w2.heap.size + 1) (w2.alloc (.cells #[.string x.name, .int .i64 x.kind, .int .i64 x.least, .int .i64 x.most, .int .i64 x.first, .int .i64 x.last, .int .i64 x.step] 26))).alloc (by rw [hs3]; exact Nat.le_refl _) (.cells #[.string x.name] 9)
  have hs4 : ((w2.alloc (.cells #[.string x.name, .int .i64 x.kind, .int .i64 x.least, .int .i64 x.most, .int .i64 x.first, .int .i64 x.last, .int .i64 x.step] 26)).alloc (.cells #[.string x.name] 9)).heap.size = w2.heap.size + 2 := by simp
  have hb14 := hb13.out.trans (hb34.mono (Nat.le_trans hb13.out.size (by rw [hs3]; exact Nat.le_refl _)))
  have g8 : ((w2.alloc (.cells #[.string x.name, .int .i64 x.kind, .int .i64 x.least, .int .i64 x.most, .int .i64 x.first, .int .i64 x.last, .int .i64 x.step] 26)).alloc (.cells #[.string x.name] 9)).rangeAt w2.heap.size 0 x.cells := fun j u hj => by rw [hb34.cell (by simp)]; exact g7.out j u hj
  have hown1 := hown0.out
  generalize ((w2.alloc (.cells #[.string x.name, .int .i64 x.kind, .int .i64 x.least, .int .i64 x.most, .int .i64 x.first, .int .i64 x.last, .int .i64 x.step] 26)).alloc (.cells #[.string x.name] 9)) = w4 at *
  clear g7 hown0 hs3 hb34 hb13 x0 x1 x2 x3 x4 x5 x6 d0 d1 d2 d3 d4 d5 d6
  replace g8 := Lib.hid g8
  replace hb14 := Lib.hid hb14
  replace hs4 := Lib.hid hs4
  replace hown1 := Lib.hid hown1
  go_loopw [7] (fun v wr => ∃ t : Nat, t + 1 ≤ m ∧ wr.ownsRow (w2.heap.size + 1) 9 1 v (t + 1) ((argsL x.name t).map Value.string) ∧ Below (w2.heap.size + 1) w4 wr) (fun v _ => m - lenV v)
  case atStart => exact ⟨0, by omega, hown1.out, Below.refl _ _⟩
  case round =>
    obtain ⟨t, ht, hown, hbel⟩ := hrel
    obtain ⟨g, ca, rfl, hg1, hg2⟩ := hown.form (by omega)
    have hbs : w2.heap.size + 1 ≤ wr.heap.size := by have := hbel.size; have := hs4.out; omega
    by_cases hlt : t + 1 < m
    · have hlti : ((t : Int) + 1 < m) := by omega
      have hq : t + 1 < 1000000000 := by omega
      go_wp2_with (at_builtin; refine append_elem rfl rfl eStr17 rfl hown rfl rfl rfl hq hbs ?_)
      intro v' w6 hown' hfr
      have hbel' := Below.of_append hbel hfr (fun k hk => (owns_block hown k hk).1) hbs
      obtain ⟨g', ca', rfl, hg1', hg2'⟩ := hown'.form (by omega)
      clear hown hbel hfr
      go_wp2
      go_roundw
      case rel => exact ⟨t + 1, by omega, by rw [argsL_succ, List.map_append]; exact hown', hbel'⟩
      case measure => simp [lenV]; omega
    · have htm : t + 1 = m := by omega
      have hlti : ¬ ((t : Int) + 1 < m) := by omega
      have hrd := Reads.of_owns hown
      have hb1r := hb14.out.trans (hbel.mono (by omega))
      have hsx : ∀ z ∈ argsL x.name t, z.size ≤ 9223372036854775807 := fun z hz => by
        rcases List.mem_cons.1 hz with rfl | hz
        · exact Nat.le_trans (names_short x hxm.out) (by omega)
        · rw [List.eq_of_mem_replicate hz]; decide
      have g9 : wr.rangeAt w2.heap.size 0 x.cells := fun j u hj => by rw [hbel.cell (by simp)]; exact g8.out j u hj
      clear hbel g8 hs4 hb14
      replace hown := Lib.hid hown
      replace hb1r := Lib.hid hb1r
      replace hsx := Lib.hid hsx
      replace g9 := Lib.hid g9
      replace hrd := Lib.hid hrd
      replace htm := Lib.hid htm
      replace hown1 := Lib.hid True.intro
      go_wp2_with fail
      refine (check17_any hrd.out hsx.out (by omega)).mono ?_
      rintro e w5 ⟨he, hb5⟩
      have hce : checkF (argsL x.name t) = checkS x (t + 1 : Nat) := by rw [argsL, checkF_name hxm.out (upper_name x hxm.out), List.length_replicate]
      rw [hce] at he
      obtain ⟨y, hy⟩ : ∃ y, y = (checkS x (t + 1 : Nat)).1 := ⟨_, rfl⟩
      obtain ⟨e1, he1⟩ : ∃ z, z = (checkS x (t + 1 : Nat)).2 := ⟨_, rfl⟩
      rw [← hy, ← he1] at he
      replace he : e = .returned (.tuple #[.agg #[.string y.name, .int .i64 y.kind, .int .i64 y.least, .int .i64 y.most, .int .i64 y.first, .int .i64 y.last, .int .i64 y.step], .string e1]) := he
      subst he
      have hb6 := (Below.refl w5.heap.size w5).alloc (Nat.le_refl _) (.cells #[.string y.name, .int .i64 y.kind, .int .i64 y.least, .int .i64 y.most, .int .i64 y.first, .int .i64 y.last, .int .i64 y.step] 26)
      have hs6 : (w5.alloc (.cells #[.string y.name, .int .i64 y.kind, .int .i64 y.least, .int .i64 y.most, .int .i64 y.first, .int .i64 y.last, .int .i64 y.step] 26)).heap.size = w5.heap.size + 1 := by simp
      have hy6 := new7 y w5
      have hx6 := range_below hb6 (range_below hb5 g9.out)
      have hown6 := owns_below (owns_below hown.out hb5 (Nat.le_refl _)) hb6 (Nat.le_refl _)
      have hb15 := hb1r.out.trans (hb5.mono hb1r.out.size)
      have hb16 := hb15.trans (hb6.mono hb15.size)
      have hgw : g < w5.heap.size := Nat.lt_of_lt_of_le hg2 hb5.size
      have hlw : w2.heap.size < w5.heap.size := by have := hb5.size; omega
      clear hown hrd g9 hb1r hb15 hb5 hb6 hce
      obtain ⟨x0, x1, x2, x3, x4, x5, x6⟩ := cells7 x hx6
      replace hown6 := Lib.hid hown6
      replace hx6 := Lib.hid hx6
      replace hy6 := Lib.hid hy6
      replace hb16 := Lib.hid hb16
      replace hs6 := Lib.hid hs6
      replace hy := Lib.hid hy
      replace he1 := Lib.hid he1
      go_wp2_with fail
      generalize (w5.alloc (.cells #[.string y.name, .int .i64 y.kind, .int .i64 y.least, .int .i64 y.most, .int .i64 y.first, .int .i64 y.last, .int .i64 y.step] 26)) = w6 at *
      obtain ⟨cap, hcap⟩ : ∃ c, c = grownCap w6 x.name.size 0 5 := ⟨_, rfl⟩
      rw [← hcap]
      obtain ⟨hc0, hf0, hb67⟩ := bytes_new x.name w6 cap
      rw [hs6.out] at hc0 hf0
      have hn : x.name.data.toList.length = x.name.size := by rw [Array.length_toList]; rfl
      have hgr := names_great x hxm.out
      have hsh := names_short x hxm.out
      generalize (w6.alloc (.cells (bytesRow x.name cap) 5 ((bytesRow x.name cap).size, (bytesRow x.name cap).size + 1))).drew = w7 at *
      clear hcap
      obtain ⟨L, hL⟩ : ∃ L, L = x.name.data.toList := ⟨_, rfl⟩
      rw [← hL] at hn hc0 hf0 hgr
      rw [← hn] at hsh ⊢
      replace hn := Lib.hid hn
      replace hc0 := Lib.hid hc0
      replace hf0 := Lib.hid hf0
      replace hb67 := Lib.hid hb67
      replace hL := Lib.hid hL
      replace hgr := Lib.hid hgr
      clear x0 x1 x2 x3 x4 x5 x6
      go_loopw [59] (fun s59 wr => ∃ j, j ≤ L.length ∧ s59 = .int .i64 j ∧ (∀ (q : Nat) (hq : q < L.length), wr.cell? ⟨w5.heap.size + 1, q, none⟩ = some (.int .u8 ((if q < j then mixAt q L[q] else L[q]).toNat : Int))) ∧ (∀ (q : Nat) (hq : q < L.length), wr.frozen? ⟨w5.heap.size + 1, q, none⟩ = false) ∧ Below w6.heap.size w6 wr) (fun s59 _ => L.length - (intOf s59).toNat)
      case atStart => exact ⟨0, Nat.zero_le _, rfl, fun q hq => by rw [if_neg (by omega)]; exact hc0.out q hq, hf0.out, hb67.out⟩
      case round =>
        obtain ⟨j, hj, rfl, hc, hf, hbel⟩ := hrel
        clear hc0 hf0 hb67
        by_cases hlj : j < L.length
        · have d0 := hc j hlj
          rw [if_neg (by omega)] at d0
          have f0 := hf j hlj
          replace hc := Lib.hid hc
          replace hf := Lib.hid hf
          replace hbel := Lib.hid hbel
          obtain ⟨l1, l2⟩ := hgr.out _ (List.getElem_mem hlj)
          obtain ⟨z, hz⟩ : ∃ z, z = L[j] := ⟨_, rfl⟩
          rw [← hz] at d0 l1 l2
          replace hz := Lib.hid hz
          have hlji : (j : Int) < L.length := by omega
          have g1 : (65 : Int) ≤ z.toNat := by omega
          have g2 : (z.toNat : Int) ≤ 90 := by omega
          have hw1 : (j : Int).tmod 2 = (j : Int) % 2 := Int.tmod_eq_emod_of_nonneg (by omega)
          rcases Int.emod_two_eq (j : Int) with hp | hp
          · have hmx : ((z.toNat : Int) + 32) = ((mixAt j z).toNat : Int) := by
              unfold mixAt; rw [if_pos (by omega)]
              have : (UInt8.ofNat (z.toNat + 32)).toNat = z.toNat + 32 := by rw [UInt8.toNat_ofNat']; omega
              rw [this]; omega
            replace hmx := Lib.hid hmx
            go_wp2
            go_roundw
            case rel =>
              refine ⟨j + 1, by omega, by go_num, fun q hq => ?_, fun q hq => ?_, hbel.out.setCell (p := ⟨w5.heap.size + 1, j, none⟩) (by rw [hs6.out]; exact Nat.le_refl _) _⟩
              · rcases Nat.lt_trichotomy q j with h9 | h9 | h9
                · rw [cell_set_ne (fun e => absurd (congrArg Addr.off e) (by simp; omega)), hc.out q hq, if_pos h9, if_pos (by omega)]
                · subst h9
                  rw [hmx.out, if_pos (by omega), ← hz.out]
                  exact World.cell?_setCell_same _ _ _ d0
                · rw [cell_set_ne (fun e => absurd (congrArg Addr.off e) (by simp; omega)), hc.out q hq, if_neg (by omega), if_neg (by omega)]
              · rw [World.frozen?_setCell]; exact hf.out q hq
            case measure => simp [intOf]; omega
          · have hmx : mixAt j z = z := by unfold mixAt; rw [if_neg (by omega)]
            replace hmx := Lib.hid hmx
            go_wp2
            go_roundw
            case rel =>
              refine ⟨j + 1, by omega, by go_num, fun q hq => ?_, hf.out, hbel.out⟩
              rw [hc.out q hq]
              rcases Nat.lt_trichotomy q j with h9 | h9 | h9
              · rw [if_pos h9, if_pos (by omega)]
              · subst h9
                rw [if_neg (by omega), if_pos (by omega), ← hz.out, hmx.out]
              · rw [if_neg (by omega), if_neg (by omega)]
            case measure => simp [intOf]; omega
        · have hjn : j = L.length := by omega
          subst hjn
          have hcb : (convert 30 9 (.slice (some ⟨w5.heap.size + 1, 0, none⟩) L.length cap)).run Tryd.prog wr = .ok (.string (mixB x.name)) wr := by
            have h7 := run_convert_bytes_back (P := Tryd.prog) wr 30 9 5 ⟨w5.heap.size + 1, 0, none⟩ cap (mixL L) Tryd.underlying30 Tryd.underlying5 Tryd.underlying9 (fun q hq => by
              have hq' : q < L.length := by simpa [mixL] using hq
              have h8 := hc q hq'
              rw [if_pos hq'] at h8
              have h9 : (⟨w5.heap.size + 1, 0, none⟩ : Addr).add q = ⟨w5.heap.size + 1, q, none⟩ := by unfold Addr.add; split <;> simp_all
              rw [h9]; simpa [mixL] using h8)
            rw [show (mixL L).length = L.length by simp [mixL]] at h7
            rw [h7, mixB, ← hL.out]
          clear hc hf
          have hownr := owns_below hown6.out hbel (Nat.le_refl _)
          have hxr := range_below hbel hx6.out
          have hyr := range_below hbel hy6.out
          have hb1r := hb16.out.trans (hbel.mono hb16.out.size)
          have q0 : wr.cell? ⟨g, 0, none⟩ = some (.string x.name) := by rw [hownr.cellAt 0 (by omega)]; rfl
          have f0 := hownr.frozenAt 0
          have hst := (hownr.stored 0 (.string (mixB x.name))).1
          have hgr9 : w5.heap.size + 1 ≤ wr.heap.size := by have := hbel.size; rw [hs6.out] at this; exact this
          clear hbel hown6 hx6 hy6 hb16
          replace hownr := Lib.hid hownr
          replace hst := Lib.hid hst
          replace hxr := Lib.hid hxr
          replace hyr := Lib.hid hyr
          replace hb1r := Lib.hid hb1r
          go_wp2_with fail
          have hrd2 : Reads (wr.setCell ⟨g, 0, none⟩ (.string (mixB x.name))) 1 (.slice (some ⟨g, 0, none⟩) (t + 1) ca) (t + 1) ((argsL (mixB x.name) t).map Value.string) := Reads.of_owns hst.out
          have hsx2 : ∀ z ∈ argsL (mixB x.name) t, z.size ≤ 9223372036854775807 := fun z hz => by
            rcases List.mem_cons.1 hz with rfl | hz
            · rw [mixB_len]; exact Nat.le_trans (names_short x hxm.out) (by omega)
            · rw [List.eq_of_mem_replicate hz]; decide
          have hx9 : (wr.setCell ⟨g, 0, none⟩ (.string (mixB x.name))).rangeAt w2.heap.size 0 x.cells := fun j u hj => by rw [cell_set_ne (fun e => absurd (congrArg Addr.block e) (by simp; omega))]; exact hxr.out j u hj
          have hy9 : (wr.setCell ⟨g, 0, none⟩ (.string (mixB x.name))).rangeAt w5.heap.size 0 y.cells := fun j u hj => by rw [cell_set_ne (fun e => absurd (congrArg Addr.block e) (by simp; omega))]; exact hyr.out j u hj
          have hb19 : Below w.heap.size w (wr.setCell ⟨g, 0, none⟩ (.string (mixB x.name))) := hb1r.out.setCell (p := ⟨g, 0, none⟩) (by show w.heap.size ≤ g; omega) _
          clear hownr hst hxr hyr hb1r q0 f0 hcb
          generalize wr.setCell ⟨g, 0, none⟩ (.string (mixB x.name)) = w9 at *
          refine (check17_any hrd2 hsx2 (by omega)).mono ?_
          rintro e w10 ⟨he, hb10⟩
          have hce : checkF (argsL (mixB x.name) t) = checkS x (t + 1 : Nat) := by rw [argsL, checkF_name hxm.out (upper_mix hxm.out), List.length_replicate]
          rw [hce, ← hy.out, ← he1.out] at he
          replace he : e = .returned (.tuple #[.agg #[.string y.name, .int .i64 y.kind, .int .i64 y.least, .int .i64 y.most, .int .i64 y.first, .int .i64 y.last, .int .i64 y.step], .string e1]) := he
          subst he
          have hb11 := (Below.refl w10.heap.size w10).alloc (Nat.le_refl _) (.cells #[.string y.name, .int .i64 y.kind, .int .i64 y.least, .int .i64 y.most, .int .i64 y.first, .int .i64 y.last, .int .i64 y.step] 26)
          obtain ⟨u0, u1, u2, u3, u4, u5, u6⟩ := cells7 y (new7 y w10)
          obtain ⟨y0, y1, y2, y3, y4, y5, y6⟩ := cells7 y (range_below hb11 (range_below hb10 hy9))
          obtain ⟨x0, x1, x2, x3, x4, x5, x6⟩ := cells7 x (range_below hb11 (range_below hb10 hx9))
          have hb110 := hb19.trans (hb10.mono hb19.size)
          have hb111 := hb110.trans (hb11.mono hb110.size)
          have hmz : ((t + 1 : Nat) : Int) = m := by have := htm.out; omega
          have hcs : (y, e1) = checkS x m := by rw [← hmz, hy.out, he1.out]
          have hwe : wrongB x m = true → (e1.toList == []) = false := fun h => by
            rw [checkS, if_pos h] at hcs
            rw [(Prod.mk.inj hcs).2, str_beqL]; simpa using eWrong_ne _
          have hwy : wrongB x m = false → y = x ∧ e1 = ⟨#[]⟩ := fun h => by
            rw [checkS, h] at hcs
            exact ⟨(Prod.mk.inj hcs).1, (Prod.mk.inj hcs).2⟩
          clear hb11 hb10 hx9 hy9 hb19 hb110 hrd2 hsx2 hce hcs hmz hy he1 hs6 hn hL hgr
          replace hb111 := Lib.hid hb111
          replace hwe := Lib.hid hwe
          replace hwy := Lib.hid hwy
          have hmB : (x.name.toList == [77, 83, 69, 84]) = decide (x.name = ⟨#[77, 83, 69, 84]⟩) := str_beqL _ _
          have hhB : (x.name.toList == [72, 83, 69, 84]) = decide (x.name = ⟨#[72, 83, 69, 84]⟩) := str_beqL _ _
          obtain ⟨M, hM⟩ : ∃ M, M = (x.name.toList == [77, 83, 69, 84]) := ⟨_, rfl⟩
          obtain ⟨H, hH⟩ : ∃ H, H = (x.name.toList == [72, 83, 69, 84]) := ⟨_, rfl⟩
          have hr : oddB x.name m = ((M && decide ((m : Int) % 2 = 0)) || (H && decide ((m : Int) % 2 = 1))) := by rw [oddB, hM, hH, hmB, hhB]
          have hMH : M = true → H = false := fun h => by
            rw [hM, hmB] at h
            rw [hH, hhB, of_decide_eq_true h]; decide
          replace hr := Lib.hid hr
          replace hM := hM.symm
          replace hH := hH.symm
          replace hMH := Lib.hid hMH
          clear hmB hhB
          have hw1 : (m : Int).tmod 2 = (m : Int) % 2 := Int.tmod_eq_emod_of_nonneg (by omega)
          rcases Int.lt_or_le m x.least with hl | hl
          · have hw : wrongB x m = true := by rw [wrongB, decide_eq_true hl]; rfl
            have hee := hwe.out hw
            clear hw
            have hl' : ¬ x.least ≤ (m : Int) := by omega
            rcases Int.emod_two_eq (m : Int) with hp | hp
            · cases M with
              | true =>
                have hH0 := hMH.out rfl
                subst hH0
                go_wp2
                go_ret
                exact ⟨rfl, hb111.out⟩
              | false =>
                cases H with
                | true =>
                  go_wp2
                  go_ret
                  exact ⟨rfl, hb111.out⟩
                | false =>
                  go_wp2
                  go_ret
                  exact ⟨rfl, hb111.out⟩
            · cases M with
              | true =>
                have hH0 := hMH.out rfl
                subst hH0
                go_wp2
                go_ret
                exact ⟨rfl, hb111.out⟩
              | false =>
                cases H with
                | true =>
                  go_wp2
                  go_ret
                  exact ⟨rfl, hb111.out⟩
                | false =>
                  go_wp2
                  go_ret
                  exact ⟨rfl, hb111.out⟩
          · rcases Int.lt_or_le x.most m with hg | hg
            · have hw : wrongB x m = true := by rw [wrongB, decide_eq_true hg, Bool.or_true]; rfl
              have hee := hwe.out hw
              clear hw
              have hg' : ¬ (m : Int) ≤ x.most := by omega
              rcases Int.emod_two_eq (m : Int) with hp | hp
              · cases M with
                | true =>
                  have hH0 := hMH.out rfl
                  subst hH0
                  go_wp2
                  go_ret
                  exact ⟨rfl, hb111.out⟩
                | false =>
                  cases H with
                  | true =>
                    go_wp2
                    go_ret
                    exact ⟨rfl, hb111.out⟩
                  | false =>
                    go_wp2
                    go_ret
                    exact ⟨rfl, hb111.out⟩
              · cases M with
                | true =>
                  have hH0 := hMH.out rfl
                  subst hH0
                  go_wp2
                  go_ret
                  exact ⟨rfl, hb111.out⟩
                | false =>
                  cases H with
                  | true =>
                    go_wp2
                    go_ret
                    exact ⟨rfl, hb111.out⟩
                  | false =>
                    go_wp2
                    go_ret
                    exact ⟨rfl, hb111.out⟩
            · have hl2 : decide ((m : Int) < x.least) = false := decide_eq_false (by omega)
              have hg2 : decide (x.most < (m : Int)) = false := decide_eq_false (by omega)
              replace hl2 := Lib.hid hl2
              replace hg2 := Lib.hid hg2
              rcases Int.emod_two_eq (m : Int) with hp | hp
              · cases M with
                | true =>
                  have hH0 := hMH.out rfl
                  subst hH0
                  have hw : wrongB x m = true := by rw [wrongB, hl2.out, hg2.out, hr.out, hp]; rfl
                  have hee := hwe.out hw
                  clear hw
                  go_wp2
                  go_ret
                  exact ⟨rfl, hb111.out⟩
                | false =>
                  cases H with
                  | true =>
                    have hw : wrongB x m = false := by rw [wrongB, hl2.out, hg2.out, hr.out, hp]; rfl
                    obtain ⟨hyx, he0⟩ := hwy.out hw
                    subst hyx he0
                    clear hw hwe hwy
                    go_wp2
                    go_ret
                    exact ⟨rfl, hb111.out⟩
                  | false =>
                    have hw : wrongB x m = false := by rw [wrongB, hl2.out, hg2.out, hr.out, hp]; rfl
                    obtain ⟨hyx, he0⟩ := hwy.out hw
                    subst hyx he0
                    clear hw hwe hwy
                    go_wp2
                    go_ret
                    exact ⟨rfl, hb111.out⟩
              · cases M with
                | true =>
                  have hH0 := hMH.out rfl
                  subst hH0
                  have hw : wrongB x m = false := by rw [wrongB, hl2.out, hg2.out, hr.out, hp]; rfl
                  obtain ⟨hyx, he0⟩ := hwy.out hw
                  subst hyx he0
                  clear hw hwe hwy
                  go_wp2
                  go_ret
                  exact ⟨rfl, hb111.out⟩
                | false =>
                  cases H with
                  | true =>
                    have hw : wrongB x m = true := by rw [wrongB, hl2.out, hg2.out, hr.out, hp]; rfl
                    have hee := hwe.out hw
                    clear hw
                    go_wp2
                    go_ret
                    exact ⟨rfl, hb111.out⟩
                  | false =>
                    have hw : wrongB x m = false := by rw [wrongB, hl2.out, hg2.out, hr.out, hp]; rfl
                    obtain ⟨hyx, he0⟩ := hwy.out hw
                    subst hyx he0
                    clear hw hwe hwy
                    go_wp2
                    go_ret
                    exact ⟨rfl, hb111.out⟩
end Go.Proofs.YtdhojdkeidilfaaDoor
