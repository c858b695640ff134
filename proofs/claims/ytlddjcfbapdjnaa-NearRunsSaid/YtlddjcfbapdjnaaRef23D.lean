/- The document's answer for layer 23: Drop, Keys. -/
import Derived.Test.YtlddjcfbapdjnaaRef23C
namespace Go.Proofs.Ytlddjcfbapdjnaa
open Go.RowKit

theorem take_filter {α : Type} (p : α → Bool) (l : List α) (i : Nat) (h : i < l.length) : (l.take (i + 1)).filter p = (l.take i).filter p ++ (if p l[i] then [l[i]] else []) := filter_snoc p l i h
theorem filter_len {α : Type} (p : α → Bool) (l : List α) (i : Nat) : ((l.take i).filter p).length ≤ i := Nat.le_trans (List.length_filter_le _ _) (List.length_take_le _ _)

/-- Tickets but those of a key; tickets but one number. -/
def dropT (ts : List (Int × ByteArray)) (k : ByteArray) : List (Int × ByteArray) := ts.filter (fun p => p.2 ≠ k)
def cutT (ts : List (Int × ByteArray)) (t : Int) : List (Int × ByteArray) := ts.filter (fun p => p.1 ≠ t)
theorem dropT_succ (ts : List (Int × ByteArray)) (k : ByteArray) (i : Nat) (h : i < ts.length) : dropT (ts.take (i + 1)) k = dropT (ts.take i) k ++ (if ts[i].2 ≠ k then [ts[i]] else []) := by
  have := take_filter (fun p : Int × ByteArray => decide (p.2 ≠ k)) ts i h
  simpa [dropT] using this
theorem cutT_succ (ts : List (Int × ByteArray)) (t : Int) (i : Nat) (h : i < ts.length) : cutT (ts.take (i + 1)) t = cutT (ts.take i) t ++ (if ts[i].1 ≠ t then [ts[i]] else []) := by
  have := take_filter (fun p : Int × ByteArray => decide (p.1 ≠ t)) ts i h
  simpa [cutT] using this
theorem dropT_len (ts : List (Int × ByteArray)) (k : ByteArray) (i : Nat) : (dropT (ts.take i) k).length ≤ i := filter_len _ _ _
theorem cutT_len (ts : List (Int × ByteArray)) (t : Int) (i : Nat) : (cutT (ts.take i) t).length ≤ i := filter_len _ _ _

set_option maxRecDepth 100000 in
set_option maxHeartbeats 3200000 in
theorem ref_drop {c : Addr → Option Value} {W : World} {r : Nat} {sE sT : Value} {s : NS} (h : RN c W r sE sT s) (key : ByteArray) (hn : s.es.length < 1000000) (hm : s.ts.length < 1000000) (hnd : (s.es.map (·.1)).Nodup) :
    Calls Try.prog 41 #[P0 r, .string key] W fun e w' => e = .returned (.bool (lookE s.es key).isSome) ∧ ∃ sE' sT' : Value, RN c w' r sE' sT' (s.drop key) ∧ Went W (rfp r sE sT) w' (rfp r sE' sT') ∧ W.heap.size ≤ w'.heap.size := by
  have hrow := h.ts
  obtain ⟨at', ct, rfl⟩ := (Reads.of_owns hrow).shape
  have hc1 := h.c1
  have hrl := h.blk.lt
  obtain ⟨W1, hW1⟩ : ∃ W1, W1 = W.alloc (.cells #[] 94) := ⟨_, rfl⟩
  have hb1 : Below W.heap.size W W1 := by rw [hW1]; exact (Below.refl _ _).alloc (Nat.le_refl _) _
  have hown0 : W1.ownsRow W.heap.size 94 2 (.slice (some ⟨W.heap.size, 0, none⟩) 0 0) 0 [] := by rw [hW1]; exact owns_empty W 94 2
  have hc1' := cell_below hb1 _ _ hc1
  obtain ⟨n, hne⟩ : ∃ n, n = s.ts.length := ⟨_, rfl⟩
  simp only [← hne] at hrow hc1 hc1' hm
  replace h := Lib.hid h
  replace hne := Lib.hid hne
  replace hW1 := Lib.hid hW1
  replace hb1 := Lib.hid hb1
  go_enter Try.func41, Try.ntmps41
  go_wp2_with fail
  rw [← hW1.out]
  go_loopw [5, 15] (fun s5 s15 wr => ∃ j : Nat, j ≤ n ∧ s15 = .int .i64 j ∧ wr.ownsRow W.heap.size 94 2 s5 (dropT (s.ts.take j) key).length (tcells (dropT (s.ts.take j) key)) ∧ Below W.heap.size W wr) (fun _ s15 _ => n - (intOf s15).toNat)
  case atStart => exact ⟨0, Nat.zero_le _, rfl, by simpa [tcells, dropT] using hown0, hb1.out⟩
  case round =>
    obtain ⟨j, hj, rfl, hown, hbel⟩ := hrel
    have hc1r := cell_below hbel _ _ hc1
    by_cases hlt : j < n
    · obtain ⟨g, rfl⟩ := owns_some hrow (by omega)
      have hjl : j < s.ts.length := by have := hne.out; omega
      obtain ⟨d0, d1⟩ := tick_elem hrow hjl
      have hts := dropT_succ s.ts key j hjl
      have hfl := dropT_len s.ts key j
      obtain ⟨p, hp⟩ : ∃ p, p = s.ts[j] := ⟨_, rfl⟩
      rw [← hp] at d0 d1 hts
      replace d0 := cell_below hbel _ _ d0
      replace d1 := cell_below hbel _ _ d1
      have i0 : (0 : Int) ≤ (j : Int) := by omega
      have i1 : (j : Int) < (n : Int) := by omega
      replace hp := Lib.hid hp
      by_cases hk : p.2 = key
      · have e := str_eq hk
        rw [if_neg (by simp [hk]), List.append_nil] at hts
        replace hts := Lib.hid hts
        replace hk := Lib.hid hk
        go_wp2
        go_roundw
        case rel => exact ⟨j + 1, by omega, by go_num, by rw [hts.out]; exact owns_fr hown ((Fr.refl (fun _ => False) _).alloc _) (fun _ _ h => h), hbel.alloc hbel.size _⟩
        case measure => simp [intOf]; omega
      · have e := str_ne hk
        rw [if_pos (by simp [hk])] at hts
        have hown1 := owns_fr hown ((Fr.refl (fun _ => False) wr).alloc (.cells #[.int .i64 p.1, .string p.2] 94)) (fun _ _ h => h)
        have hbel1 := hbel.alloc hbel.size (.cells #[.int .i64 p.1, .string p.2] 94)
        have hq : (dropT (s.ts.take j) key).length < 1000000000 := by omega
        have hsz1 := hbel1.size
        replace hts := Lib.hid hts
        replace hk := Lib.hid hk
        replace hfl := Lib.hid hfl
        replace hbel1 := Lib.hid hbel1
        go_wp2_with (at_builtin; refine append_elem_at rfl rfl eTicket rfl hown1 (by simp [Act.eval]) rfl (by simp [Value.oneCell']) hq hsz1 ?_)
        intro v' w1 hown' hfr hnew
        have hbel' := Below.of_append hbel1.out hfr (fun k hk => (owns_block hown k hk).1) hsz1
        clear hown hown1 hbel hfr hnew d0 d1 hc1r hsz1
        go_wp2
        go_roundw
        case rel => exact ⟨j + 1, by omega, by go_num, by rw [hts.out, tcells_snoc, List.length_append]; exact hown', hbel'⟩
        case measure => simp [intOf]; omega
    · obtain rfl : j = n := by omega
      rw [hne.out, List.take_length] at hown
      obtain ⟨k1, k2⟩ := h.out.setT ((Fr.of_below hbel).mono (fun i hi hle => absurd hle (by omega))) (ts' := dropT s.ts key) (owns_mono hown (by omega)) (fun k hk => Or.inr (owns_block hown k hk).1)
      have hz1 := (hbel.frozen (p := ⟨r, 1, none⟩) hrl).trans (h.out.blk.frz 1 none)
      obtain ⟨a5, c5, rfl⟩ := (Reads.of_owns hown).shape
      have hsp := findI_spec s.es key
      replace k1 := Lib.hid k1
      replace k2 := Lib.hid k2
      replace hsp := Lib.hid hsp
      have hszw : W.heap.size ≤ wr.heap.size := hbel.size
      clear hown hrow
      go_wp2_with fail
      refine (ref_find k1.out key hn).mono ?_
      rintro e w2 ⟨rfl, hb2⟩
      have k3 := k1.out.below hb2
      have hw3 := k2.out.trans (Went.of_below hb2)
      rcases hsp.out with ⟨hlk, hfi⟩ | ⟨i, hi, hfi, hk, hlk, _⟩
      · have hfi' : findI ({ s with ts := dropT s.ts key } : NS).es key = -1 := hfi
        rw [hfi']
        have hd : s.drop key = { s with ts := dropT s.ts key } := by rw [NS.drop, filter_none hlk]; rfl
        replace k3 := Lib.hid k3
        replace hw3 := Lib.hid hw3
        replace hlk := Lib.hid hlk
        replace hfi := Lib.hid hfi
        replace hfi' := Lib.hid hfi'
        replace hd := Lib.hid hd
        clear hsp
        go_wp2
        go_ret
        exact ⟨by rw [hlk.out]; rfl, sE, .slice a5 _ c5, by rw [hd.out]; exact k3.out, hw3.out, hw3.out.1.size⟩
      · have hfi' : findI ({ s with ts := dropT s.ts key } : NS).es key = i := hfi
        rw [hfi']
        have hd : s.drop key = { s with ts := dropT s.ts key, es := s.es.eraseIdx i } := by rw [NS.drop, erase_filter hnd hi hk]; rfl
        have i0 : (0 : Int) ≤ (i : Int) := by omega
        replace k3 := Lib.hid k3
        replace hw3 := Lib.hid hw3
        replace hlk := Lib.hid hlk
        replace hfi := Lib.hid hfi
        replace hfi' := Lib.hid hfi'
        replace hd := Lib.hid hd
        replace hk := Lib.hid hk
        clear hsp
        go_wp2_with fail
        refine (ref_without k3.out i hi hn).mono ?_
        rintro e w4 ⟨sE', rfl, h4, hw4, hsz4, _⟩
        have hw5 := hw3.out.trans hw4
        replace hw4 := Lib.hid hw4
        replace h4 := Lib.hid h4
        replace hw5 := Lib.hid hw5
        go_wp2
        go_ret
        exact ⟨by rw [hlk.out]; rfl, sE', .slice a5 _ c5, by rw [hd.out]; exact h4.out, hw5.out, hw5.out.1.size⟩
end Go.Proofs.Ytlddjcfbapdjnaa
