/- nearhandref17.Upper and lower. -/
import Derived.Test.YtdhojdkeidilfaaDoorPar01
namespace Go.Proofs.YtdhojdkeidilfaaDoor
open Go.RowKit

theorem eByte17 : Elem Tryd.prog 30 5 1 1 := elem_of Tryd.underlying30 (by decide) (by decide) (by kernel_rfl)
def lowb (b : UInt8) : UInt8 := if 65 ≤ b.toNat ∧ b.toNat ≤ 90 then UInt8.ofNat (b.toNat + 32) else b
theorem lowb_lib : Lib.lowerB = lowb := by
  funext b
  have key : ∀ b : Fin 256, Lib.lowerB (UInt8.ofNat b.val) = lowb (UInt8.ofNat b.val) := by decide +kernel
  have := key ⟨b.toNat, b.toNat_lt⟩
  simpa using this
theorem lowB_eq (s : ByteArray) : lowB s = ⟨(s.data.toList.map lowb).toArray⟩ := by rw [lowB, Lib.toLowerA, lowb_lib]
theorem upB_eq (s : ByteArray) : upB s = ⟨(s.data.toList.map upb).toArray⟩ := rfl
def byteV (b : UInt8) : Value := .int .u8 (b.toNat : Int)
def bRow (f : UInt8 → UInt8) (L : List UInt8) (k : Nat) : List Value := ((L.take k).map f).map byteV
theorem bRow_succ (f : UInt8 → UInt8) {L : List UInt8} {k : Nat} {c : UInt8} (h : L[k]? = some c) : bRow f L (k + 1) = bRow f L k ++ [.int .u8 (f c).toNat] := by
  rw [bRow, List.take_add_one, h, List.map_append, List.map_append]; rfl
/-- As append_elem; the row as long as there is room. -/
theorem append_room {P : Program} {w0 : World} {ops : Array Oper} {rest : List Oper} {o : Oper} {a : Act} {Q : Exit → Act → World → Prop} {s x : Operand} {t e base size bytes n : Nat} {v : Value} {xs : List Value} {us : Array Value}
    (hgd : o.guard = none) (ho : o.op = .call { callee := .builtin .append, args := #[s, x], argTypes := #[t, t] }) (E : Elem P t e size bytes)
    (hs : a.eval s = v) (hown : w0.ownsRow base e size v n xs) (hx : a.eval x = .slice (some ⟨w0.heap.size, 0, none⟩) 1 1) (hus : us.size = size) (h1 : us.toList.all (fun u => u.oneCell') = true)
    (hn : n + 1 ≤ 140737488355328) (hn2 : (n + 1) * bytes ≤ 140737488355328) (hbase : base ≤ w0.heap.size)
    (h : ∀ v' w', w'.ownsRow base e size v' (n + 1) (xs ++ us.toList) → Fr (fun k => v.ownBlock = some k) w0 w' → wpList P ops Q rest (a.put o.dst v') w') : wpList P ops Q (o :: rest) a (w0.alloc (.cells us e)) := by
  obtain ⟨ht, hsz, hb, i, z, hi, hz, hi1, hi2, hz1⟩ := E
  refine wpList_append_own _ hgd s x t ho base e i z size bytes ht hi hz hi1 hi2 hz1 hsz v n xs hs (hown.alloc _) ⟨w0.heap.size, 0, none⟩ 1 1 us.toList hx (by simp [hus]) ?_ ?_ ?_ ?_ ?_ ?_
  · intro j u hj
    have e1 : (⟨w0.heap.size, 0, none⟩ : Addr).add j = ⟨w0.heap.size, j, none⟩ := by
      unfold Addr.add; split
      · rename_i h; rw [h]
      · simp
    rw [e1, World.cell?_alloc_new]; simpa using hj
  · intro u hu; exact List.all_eq_true.1 h1 u hu
  · unfold maxLen; omega
  · exact hn2
  · simp; omega
  · intro v' w' g1 g2 _
    refine h v' w' g1 ⟨g2.os, g2.tape, g2.output, by have := g2.size; simp at this; omega, fun k hk hS => ?_⟩
    rw [g2.block k (by simp; omega) (fun e => hS e.symm), Below.heap_alloc _ _ _ hk]
theorem upb_hit (c : UInt8) (h1 : 97 ≤ c.toNat) (h2 : c.toNat ≤ 122) : (c.toNat : Int) - 32 = ((upb c).toNat : Int) := by
  unfold upb; rw [if_pos ⟨h1, h2⟩]
  have : (UInt8.ofNat (c.toNat - 32)).toNat = c.toNat - 32 := by rw [UInt8.toNat_ofNat']; omega
  rw [this]; omega
theorem lowb_hit (c : UInt8) (h1 : 65 ≤ c.toNat) (h2 : c.toNat ≤ 90) : (c.toNat : Int) + 32 = ((lowb c).toNat : Int) := by
  unfold lowb; rw [if_pos ⟨h1, h2⟩]
  have : (UInt8.ofNat (c.toNat + 32)).toNat = c.toNat + 32 := by rw [UInt8.toNat_ofNat']; omega
  rw [this]; omega
set_option maxRecDepth 100000 in
set_option maxHeartbeats 3200000 in
theorem refUpper_any (s : ByteArray) (hs : s.size ≤ 140737488355328) (w : World) : Calls Tryd.prog 20 #[.string s] w fun e w' => e = .returned (.string (upB s)) ∧ Below w.heap.size w w' := by
  go_enter Tryd.func20, Tryd.ntmps20
  have hown0 := owns_empty w 5 1
  have hbel0 := (Below.refl w.heap.size w).alloc (Nat.le_refl _) (.cells #[] 5)
  replace hown0 := Lib.hid hown0
  replace hbel0 := Lib.hid hbel0
  obtain ⟨L, hL⟩ : ∃ L, L = s.data.toList := ⟨_, rfl⟩
  have hLn : L.length = s.size := by rw [hL, Array.length_toList]; rfl
  replace hL := Lib.hid hL
  replace hLn := Lib.hid hLn
  go_wp2_with fail
  generalize w.alloc (.cells #[] 5) = w1 at *
  go_loopw [3, 4] (fun v i wr => ∃ k : Nat, k ≤ s.size ∧ i = .int .i64 k ∧ (∃ g ca, v = .slice (some ⟨g, 0, none⟩) k ca) ∧ wr.ownsRow w.heap.size 5 1 v k (bRow upb L k) ∧ Below w.heap.size w wr) (fun _ i _ => s.size - (intOf i).toNat)
  case atStart => exact ⟨0, Nat.zero_le _, rfl, ⟨_, _, rfl⟩, hown0.out, hbel0.out⟩
  case round =>
    obtain ⟨k, hk, rfl, ⟨g9, c9, rfl⟩, hown, hbel⟩ := hrel
    clear hown0 hbel0
    have hbs := hbel.size
    by_cases hlt : k < s.size
    · have hlti : (k : Int) < s.size := by omega
      obtain ⟨c, hc⟩ : ∃ c : UInt8, s[k]'hlt = c := ⟨_, rfl⟩
      have hcl : L[k]? = some c := by rw [hL.out, Lib.data_getElem? s k hlt, hc]
      have hstep := bRow_succ upb hcl
      have hn9 : k + 1 ≤ 140737488355328 := by omega
      have hn8 : (k + 1) * 1 ≤ 140737488355328 := by omega
      replace hcl := Lib.hid hcl
      replace hstep := Lib.hid hstep
      have hc256 : c.toNat < 256 := c.toNat_lt
      by_cases h1 : 97 ≤ c.toNat
      · by_cases h2 : c.toNat ≤ 122
        · have g1 : (97 : Int) ≤ c.toNat := by omega
          have g2 : (c.toNat : Int) ≤ 122 := by omega
          have hu := upb_hit c h1 h2
          replace hu := Lib.hid hu
          go_wp2_with (at_builtin; refine append_room rfl rfl eByte17 rfl hown rfl rfl rfl hn9 hn8 hbs ?_)
          intro v' w6 hown' hfr
          have hbel' := Below.of_append hbel hfr (fun k hk => (owns_block hown k hk).1) hbs
          obtain ⟨g', ca', rfl, hg1', hg2'⟩ := hown'.form (by omega)
          clear hown hbel hfr
          go_wp2_with fail
          go_roundw
          case rel => exact ⟨k + 1, by omega, by go_num, ⟨_, _, rfl⟩, by rw [hstep.out]; rw [hu.out] at hown'; exact hown', hbel'⟩
          case measure => simp [intOf]; omega
        · have g1 : (97 : Int) ≤ c.toNat := by omega
          have g2 : ¬ (c.toNat : Int) ≤ 122 := by omega
          have hu : ((c.toNat : Int)) = ((upb c).toNat : Int) := by unfold upb; rw [if_neg (by omega)]
          replace hu := Lib.hid hu
          go_wp2_with (at_builtin; refine append_room rfl rfl eByte17 rfl hown rfl rfl rfl hn9 hn8 hbs ?_)
          intro v' w6 hown' hfr
          have hbel' := Below.of_append hbel hfr (fun k hk => (owns_block hown k hk).1) hbs
          obtain ⟨g', ca', rfl, hg1', hg2'⟩ := hown'.form (by omega)
          clear hown hbel hfr
          go_wp2_with fail
          go_roundw
          case rel => exact ⟨k + 1, by omega, by go_num, ⟨_, _, rfl⟩, by rw [hstep.out]; rw [hu.out] at hown'; exact hown', hbel'⟩
          case measure => simp [intOf]; omega
      · have g1 : ¬ (97 : Int) ≤ c.toNat := by omega
        have hu : ((c.toNat : Int)) = ((upb c).toNat : Int) := by unfold upb; rw [if_neg (by omega)]
        replace hu := Lib.hid hu
        go_wp2_with (at_builtin; refine append_room rfl rfl eByte17 rfl hown rfl rfl rfl hn9 hn8 hbs ?_)
        intro v' w6 hown' hfr
        have hbel' := Below.of_append hbel hfr (fun k hk => (owns_block hown k hk).1) hbs
        obtain ⟨g', ca', rfl, hg1', hg2'⟩ := hown'.form (by omega)
        clear hown hbel hfr
        go_wp2_with fail
        go_roundw
        case rel => exact ⟨k + 1, by omega, by go_num, ⟨_, _, rfl⟩, by rw [hstep.out]; rw [hu.out] at hown'; exact hown', hbel'⟩
        case measure => simp [intOf]; omega
    · have hlti : ¬ (k : Int) < s.size := by omega
      have htk : L.take k = L := List.take_of_length_le (by rw [hLn.out]; omega)
      rw [bRow, htk] at hown
      have hkn := len_of hown rfl
      rw [List.length_map] at hkn
      have hcb : (convert 30 9 (.slice (some ⟨g9, 0, none⟩) k c9)).run Tryd.prog wr = .ok (.string (upB s)) wr := by
        have h7 := run_convert_bytes_back (P := Tryd.prog) wr 30 9 5 ⟨g9, 0, none⟩ c9 (L.map upb) Tryd.underlying30 Tryd.underlying5 Tryd.underlying9 (fun q hq => by
          have h9 : (⟨g9, 0, none⟩ : Addr).add q = ⟨g9, q, none⟩ := by unfold Addr.add; split <;> simp_all
          have h8 := hown.cellAt q (by rw [List.length_map] at hq; omega)
          rw [h9, h8, List.getElem?_map, List.getElem?_eq_getElem hq]
          rfl)
        rw [List.length_map, ← hkn] at h7
        rw [h7, upB_eq, hL.out]
      clear hown htk hkn
      replace hbel := Lib.hid hbel
      go_wp2_with fail
      go_ret
      exact ⟨rfl, hbel.out⟩
set_option maxRecDepth 100000 in
set_option maxHeartbeats 3200000 in
theorem refLower_any (s : ByteArray) (hs : s.size ≤ 140737488355328) (w : World) : Calls Tryd.prog 29 #[.string s] w fun e w' => e = .returned (.string (lowB s)) ∧ Below w.heap.size w w' := by
  go_enter Tryd.func29, Tryd.ntmps29
  have hown0 := owns_empty w 5 1
  have hbel0 := (Below.refl w.heap.size w).alloc (Nat.le_refl _) (.cells #[] 5)
  replace hown0 := Lib.hid hown0
  replace hbel0 := Lib.hid hbel0
  obtain ⟨L, hL⟩ : ∃ L, L = s.data.toList := ⟨_, rfl⟩
  have hLn : L.length = s.size := by rw [hL, Array.length_toList]; rfl
  replace hL := Lib.hid hL
  replace hLn := Lib.hid hLn
  go_wp2_with fail
  generalize w.alloc (.cells #[] 5) = w1 at *
  go_loopw [3, 4] (fun v i wr => ∃ k : Nat, k ≤ s.size ∧ i = .int .i64 k ∧ (∃ g ca, v = .slice (some ⟨g, 0, none⟩) k ca) ∧ wr.ownsRow w.heap.size 5 1 v k (bRow lowb L k) ∧ Below w.heap.size w wr) (fun _ i _ => s.size - (intOf i).toNat)
  case atStart => exact ⟨0, Nat.zero_le _, rfl, ⟨_, _, rfl⟩, hown0.out, hbel0.out⟩
  case round =>
    obtain ⟨k, hk, rfl, ⟨g9, c9, rfl⟩, hown, hbel⟩ := hrel
    clear hown0 hbel0
    have hbs := hbel.size
    by_cases hlt : k < s.size
    · have hlti : (k : Int) < s.size := by omega
      obtain ⟨c, hc⟩ : ∃ c : UInt8, s[k]'hlt = c := ⟨_, rfl⟩
      have hcl : L[k]? = some c := by rw [hL.out, Lib.data_getElem? s k hlt, hc]
      have hstep := bRow_succ lowb hcl
      have hn9 : k + 1 ≤ 140737488355328 := by omega
      have hn8 : (k + 1) * 1 ≤ 140737488355328 := by omega
      replace hcl := Lib.hid hcl
      replace hstep := Lib.hid hstep
      have hc256 : c.toNat < 256 := c.toNat_lt
      by_cases h1 : 65 ≤ c.toNat
      · by_cases h2 : c.toNat ≤ 90
        · have g1 : (65 : Int) ≤ c.toNat := by omega
          have g2 : (c.toNat : Int) ≤ 90 := by omega
          have hu := lowb_hit c h1 h2
          replace hu := Lib.hid hu
          go_wp2_with (at_builtin; refine append_room rfl rfl eByte17 rfl hown rfl rfl rfl hn9 hn8 hbs ?_)
          intro v' w6 hown' hfr
          have hbel' := Below.of_append hbel hfr (fun k hk => (owns_block hown k hk).1) hbs
          obtain ⟨g', ca', rfl, hg1', hg2'⟩ := hown'.form (by omega)
          clear hown hbel hfr
          go_wp2_with fail
          go_roundw
          case rel => exact ⟨k + 1, by omega, by go_num, ⟨_, _, rfl⟩, by rw [hstep.out]; rw [hu.out] at hown'; exact hown', hbel'⟩
          case measure => simp [intOf]; omega
        · have g1 : (65 : Int) ≤ c.toNat := by omega
          have g2 : ¬ (c.toNat : Int) ≤ 90 := by omega
          have hu : ((c.toNat : Int)) = ((lowb c).toNat : Int) := by unfold lowb; rw [if_neg (by omega)]
          replace hu := Lib.hid hu
          go_wp2_with (at_builtin; refine append_room rfl rfl eByte17 rfl hown rfl rfl rfl hn9 hn8 hbs ?_)
          intro v' w6 hown' hfr
          have hbel' := Below.of_append hbel hfr (fun k hk => (owns_block hown k hk).1) hbs
          obtain ⟨g', ca', rfl, hg1', hg2'⟩ := hown'.form (by omega)
          clear hown hbel hfr
          go_wp2_with fail
          go_roundw
          case rel => exact ⟨k + 1, by omega, by go_num, ⟨_, _, rfl⟩, by rw [hstep.out]; rw [hu.out] at hown'; exact hown', hbel'⟩
          case measure => simp [intOf]; omega
      · have g1 : ¬ (65 : Int) ≤ c.toNat := by omega
        have hu : ((c.toNat : Int)) = ((lowb c).toNat : Int) := by unfold lowb; rw [if_neg (by omega)]
        replace hu := Lib.hid hu
        go_wp2_with (at_builtin; refine append_room rfl rfl eByte17 rfl hown rfl rfl rfl hn9 hn8 hbs ?_)
        intro v' w6 hown' hfr
        have hbel' := Below.of_append hbel hfr (fun k hk => (owns_block hown k hk).1) hbs
        obtain ⟨g', ca', rfl, hg1', hg2'⟩ := hown'.form (by omega)
        clear hown hbel hfr
        go_wp2_with fail
        go_roundw
        case rel => exact ⟨k + 1, by omega, by go_num, ⟨_, _, rfl⟩, by rw [hstep.out]; rw [hu.out] at hown'; exact hown', hbel'⟩
        case measure => simp [intOf]; omega
    · have hlti : ¬ (k : Int) < s.size := by omega
      have htk : L.take k = L := List.take_of_length_le (by rw [hLn.out]; omega)
      rw [bRow, htk] at hown
      have hkn := len_of hown rfl
      rw [List.length_map] at hkn
      have hcb : (convert 30 9 (.slice (some ⟨g9, 0, none⟩) k c9)).run Tryd.prog wr = .ok (.string (lowB s)) wr := by
        have h7 := run_convert_bytes_back (P := Tryd.prog) wr 30 9 5 ⟨g9, 0, none⟩ c9 (L.map lowb) Tryd.underlying30 Tryd.underlying5 Tryd.underlying9 (fun q hq => by
          have h9 : (⟨g9, 0, none⟩ : Addr).add q = ⟨g9, q, none⟩ := by unfold Addr.add; split <;> simp_all
          have h8 := hown.cellAt q (by rw [List.length_map] at hq; omega)
          rw [h9, h8, List.getElem?_map, List.getElem?_eq_getElem hq]
          rfl)
        rw [List.length_map, ← hkn] at h7
        rw [h7, lowB_eq, hL.out]
      clear hown htk hkn
      replace hbel := Lib.hid hbel
      go_wp2_with fail
      go_ret
      exact ⟨rfl, hbel.out⟩
end Go.Proofs.YtdhojdkeidilfaaDoor
