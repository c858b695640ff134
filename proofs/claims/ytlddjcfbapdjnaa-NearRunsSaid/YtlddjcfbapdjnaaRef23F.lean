/- The document's answer for layer 23: Keys. -/
import Derived.Test.YtlddjcfbapdjnaaRef23E
namespace Go.Proofs.Ytlddjcfbapdjnaa
open Go.RowKit

set_option maxRecDepth 100000 in
set_option maxHeartbeats 1600000 in
theorem ref_keys {c : Addr → Option Value} {W : World} {r : Nat} {sE sT : Value} {s : NS} (h : RN c W r sE sT s) (hn : s.es.length < 1000000) :
    Calls Try.prog 44 #[P0 r] W fun e w' => ∃ v, e = .returned v ∧ w'.ownsRow W.heap.size 9 1 v s.keys.length (s.keys.map Value.string) ∧ Below W.heap.size W w' := by
  obtain ⟨css, h1, h2⟩ := h.es
  obtain ⟨ae, ce, rfl⟩ := (Reads.of_owns h2).shape
  have c0 := h.c0
  have hrl := h.blk.lt
  obtain ⟨W1, hW1⟩ : ∃ W1, W1 = W.alloc (.cells #[] 9) := ⟨_, rfl⟩
  have hb1 : Below W.heap.size W W1 := by rw [hW1]; exact (Below.refl _ _).alloc (Nat.le_refl _) _
  have hown0 : W1.ownsRow W.heap.size 9 1 (.slice (some ⟨W.heap.size, 0, none⟩) 0 0) 0 [] := by rw [hW1]; exact owns_empty W 9 1
  obtain ⟨n, hne⟩ : ∃ n, n = s.es.length := ⟨_, rfl⟩
  have hkl : s.keys.length = n := by rw [hne, NS.keys, List.length_map]
  rw [← hne] at h2 c0 hn
  replace h1 := Lib.hid h1
  replace hne := Lib.hid hne
  replace hkl := Lib.hid hkl
  replace hW1 := Lib.hid hW1
  replace hb1 := Lib.hid hb1
  clear h
  go_enter Try.func44, Try.ntmps44
  go_wp2_with fail
  rw [← hW1.out]
  go_loopw [3, 12] (fun s3 s12 wr => ∃ j : Nat, j ≤ n ∧ s12 = .int .i64 j ∧ wr.ownsRow W.heap.size 9 1 s3 j ((s.keys.take j).map Value.string) ∧ Below W.heap.size W wr) (fun _ s12 _ => n - (intOf s12).toNat)
  case atStart => exact ⟨0, Nat.zero_le _, rfl, by simpa using hown0, hb1.out⟩
  case round =>
    obtain ⟨j, hj, rfl, hown, hbel⟩ := hrel
    have c0r := cell_below hbel _ _ c0
    by_cases hlt : j < n
    · obtain ⟨g, rfl⟩ := owns_some h2 (by omega)
      have hjl : j < s.es.length := by have := hne.out; omega
      have hjk : j < s.keys.length := by have := hkl.out; omega
      obtain ⟨a, cap', _, d0, d1, d2, d3, d4, d5, d6⟩ := h1.out.elem hne.out h2 hjl
      have hts : s.keys.take (j + 1) = s.keys.take j ++ [s.es[j].1] := by rw [List.take_succ_eq_append_getElem hjk]; simp [NS.keys]
      obtain ⟨p, hp⟩ : ∃ p, p = s.es[j] := ⟨_, rfl⟩
      rw [← hp] at d0 d1 d2 d3 d4 d5 d6 hts
      replace d0 := cell_below hbel _ _ d0
      replace d1 := cell_below hbel _ _ d1
      replace d2 := cell_below hbel _ _ d2
      replace d3 := cell_below hbel _ _ d3
      replace d4 := cell_below hbel _ _ d4
      replace d5 := cell_below hbel _ _ d5
      replace d6 := cell_below hbel _ _ d6
      have i0 : (0 : Int) ≤ (j : Int) := by omega
      have i1 : (j : Int) < (n : Int) := by omega
      have hown1 := owns_fr hown ((Fr.refl (fun _ => False) wr).alloc (.cells #[.string p.1, .int .i64 p.2.kind, .string p.2.text, .int .i64 p.2.int, .float .f64 p.2.real, .bool p.2.flag, .slice a p.2.list.length cap'] 91)) (fun _ _ h => h)
      have hbel1 := hbel.alloc hbel.size (.cells #[.string p.1, .int .i64 p.2.kind, .string p.2.text, .int .i64 p.2.int, .float .f64 p.2.real, .bool p.2.flag, .slice a p.2.list.length cap'] 91)
      have hq : j < 1000000000 := by omega
      have hsz1 := hbel1.size
      replace hp := Lib.hid hp
      replace hts := Lib.hid hts
      replace hbel1 := Lib.hid hbel1
      clear h2 c0
      go_wp2_with (at_builtin; refine append_elem_at rfl rfl eStr rfl hown1 (by simp [Act.eval]) rfl (by simp [Value.oneCell']) hq hsz1 ?_)
      intro v' w1 hown' hfr hnew
      have hbel' := Below.of_append hbel1.out hfr (fun k hk => (owns_block hown k hk).1) hsz1
      clear hown hown1 hbel hfr hnew d0 d1 d2 d3 d4 d5 d6 c0r hsz1
      go_wp2
      go_roundw
      case rel => exact ⟨j + 1, by omega, by go_num, by rw [hts.out, List.map_append, List.map_take]; exact hown', hbel'⟩
      case measure => simp [intOf]; omega
    · obtain rfl : j = n := by omega
      have hfin : wr.ownsRow W.heap.size 9 1 u3 s.keys.length (s.keys.map Value.string) := by
        have := hkl.out
        rw [List.take_of_length_le (by omega)] at hown
        rw [this]; exact hown
      replace hfin := Lib.hid hfin
      clear h2 c0 hown
      go_wp2
      go_ret
      exact ⟨u3, rfl, hfin.out, hbel⟩
end Go.Proofs.Ytlddjcfbapdjnaa
