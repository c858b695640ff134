/- words.Upper: ASCII letters made great. -/
import Derived.Test.YtdhojdkeidilfaaDoorAll17
import Derived.Laws.IdiomStrings
namespace Go.Proofs.YtdhojdkeidilfaaDoor
open Go.RowKit

def upb (b : UInt8) : UInt8 := if 97 ≤ b.toNat ∧ b.toNat ≤ 122 then UInt8.ofNat (b.toNat - 32) else b
def upL (s : ByteArray) : List UInt8 := s.data.toList.map upb
def upB (s : ByteArray) : ByteArray := ⟨(upL s).toArray⟩

set_option maxRecDepth 100000 in
set_option maxHeartbeats 1600000 in
theorem upper17_any (s : ByteArray) (hs : s.size ≤ 9223372036854775807) (w : World) : Calls Tryd.prog 19 #[.string s] w fun e w' => e = .returned (.string (upB s)) ∧ Below w.heap.size w w' := by
  have hcv2 := fun w s => run_bytes_of_string (P := Tryd.prog) w 9 30 5 s Tryd.underlying9 Tryd.underlying30 Tryd.underlying5
  go_enter Tryd.func19, Tryd.ntmps19
  go_wp2_with fail
  obtain ⟨cap, hcap⟩ : ∃ c, c = grownCap w s.size 0 5 := ⟨_, rfl⟩
  have hn : s.data.toList.length = s.size := by rw [Array.length_toList]; rfl
  have hc0 : ∀ (j : Nat) (hj : j < s.data.toList.length), ((w.alloc (.cells (bytesRow s cap) 5 ((bytesRow s cap).size, (bytesRow s cap).size + 1))).drew).cell? ⟨w.heap.size, j, none⟩ = some (.int .u8 (s.data.toList[j].toNat : Int)) := fun j hj => by
    have := World.cell?_alloc_mark w (bytesRow s cap) 5 ((bytesRow s cap).size, (bytesRow s cap).size + 1) j
    rw [bytesRow_at s cap j (by simpa using hj)] at this
    simpa using this
  have hf0 : ∀ (j : Nat) (hj : j < s.data.toList.length), ((w.alloc (.cells (bytesRow s cap) 5 ((bytesRow s cap).size, (bytesRow s cap).size + 1))).drew).frozen? ⟨w.heap.size, j, none⟩ = false := fun j hj => by
    have h1 := World.frozen?_alloc_mark w (bytesRow s cap) 5 (bytesRow s cap).size ((bytesRow s cap).size + 1) j
    have h2 : j < (bytesRow s cap).size := by
      rcases Nat.lt_or_ge j (bytesRow s cap).size with h | h
      · exact h
      · have h3 := bytesRow_at s cap j (by simpa using hj)
        rw [Array.getElem?_eq_none h] at h3; simp at h3
    have h4 : decide ((bytesRow s cap).size ≤ j) = false := decide_eq_false (by omega)
    rw [h4] at h1
    exact h1
  have hb0 : Below w.heap.size w ((w.alloc (.cells (bytesRow s cap) 5 ((bytesRow s cap).size, (bytesRow s cap).size + 1))).drew) := ((Below.refl _ _).alloc (Nat.le_refl _) _).drew
  rw [← hcap]
  generalize ((w.alloc (.cells (bytesRow s cap) 5 ((bytesRow s cap).size, (bytesRow s cap).size + 1))).drew) = W1 at hc0 hf0 hb0 ⊢
  clear hcap
  obtain ⟨L, hL⟩ : ∃ L, L = s.data.toList := ⟨_, rfl⟩
  rw [← hL] at hn hc0 hf0
  rw [← hn]
  have hs9 : L.length ≤ 9223372036854775807 := by rw [hn]; exact hs
  obtain ⟨b, hb⟩ : ∃ b, b = w.heap.size := ⟨_, rfl⟩
  rw [← hb] at hc0 hf0 hb0 ⊢
  replace hb := Lib.hid hb
  replace hc0 := Lib.hid hc0
  replace hf0 := Lib.hid hf0
  replace hb0 := Lib.hid hb0
  replace hL := Lib.hid hL
  replace hn := Lib.hid hn
  go_loopw [10] (fun s10 wr => ∃ i, i ≤ L.length ∧ s10 = .int .i64 i ∧ (∀ (j : Nat) (hj : j < L.length), wr.cell? ⟨b, j, none⟩ = some (.int .u8 ((if j < i then upb L[j] else L[j]).toNat : Int))) ∧ (∀ (j : Nat) (hj : j < L.length), wr.frozen? ⟨b, j, none⟩ = false) ∧ Below b w wr) (fun s10 _ => L.length - (intOf s10).toNat)
  case atStart => exact ⟨0, Nat.zero_le _, rfl, fun j hj => by rw [if_neg (by omega)]; exact hc0.out j hj, hf0.out, hb0.out⟩
  case round =>
    obtain ⟨i, hi, rfl, hc, hf, hbel⟩ := hrel
    clear hc0 hf0 hb0
    by_cases hlt : i < L.length
    · have d0 := hc i hlt
      rw [if_neg (by omega)] at d0
      have f0 := hf i hlt
      replace hc := Lib.hid hc
      replace hf := Lib.hid hf
      replace hbel := Lib.hid hbel
      obtain ⟨x, hx⟩ : ∃ x, x = L[i] := ⟨_, rfl⟩
      rw [← hx] at d0
      replace hx := Lib.hid hx
      have hlti : (i : Int) < L.length := by omega
      by_cases h1 : 97 ≤ x.toNat
      · by_cases h2 : x.toNat ≤ 122
        · have g1 : (97 : Int) ≤ x.toNat := by omega
          have g2 : (x.toNat : Int) ≤ 122 := by omega
          go_wp2
          go_roundw
          case rel =>
            have hu : ((x.toNat : Int) - 97 + 65) = ((upb x).toNat : Int) := by
              unfold upb; rw [if_pos ⟨h1, h2⟩]
              have : (UInt8.ofNat (x.toNat - 32)).toNat = x.toNat - 32 := by rw [UInt8.toNat_ofNat']; omega
              rw [this]; omega
            refine ⟨i + 1, by omega, by go_num, fun j hj => ?_, fun j hj => ?_, hbel.out.setCell (p := ⟨b, i, none⟩) (Nat.le_refl _) _⟩
            · rcases Nat.lt_trichotomy j i with h9 | h9 | h9
              · rw [cell_set_ne (fun e => absurd (congrArg Addr.off e) (by simp; omega)), hc.out j hj, if_pos h9, if_pos (by omega)]
              · subst h9
                rw [hu, if_pos (by omega), ← hx.out]
                exact World.cell?_setCell_same _ _ _ d0
              · rw [cell_set_ne (fun e => absurd (congrArg Addr.off e) (by simp; omega)), hc.out j hj, if_neg (by omega), if_neg (by omega)]
            · rw [World.frozen?_setCell]; exact hf.out j hj
          case measure => simp [intOf]; omega
        · have g1 : (97 : Int) ≤ x.toNat := by omega
          have g2 : ¬ (x.toNat : Int) ≤ 122 := by omega
          have hu : upb x = x := by unfold upb; rw [if_neg (by omega)]
          go_wp2
          go_roundw
          case rel =>
            refine ⟨i + 1, by omega, by go_num, fun j hj => ?_, hf.out, hbel.out⟩
            rw [hc.out j hj]
            rcases Nat.lt_trichotomy j i with h9 | h9 | h9
            · rw [if_pos h9, if_pos (by omega)]
            · subst h9
              rw [if_neg (by omega), if_pos (by omega), ← hx.out, hu]
            · rw [if_neg (by omega), if_neg (by omega)]
          case measure => simp [intOf]; omega
      · have g1 : ¬ (97 : Int) ≤ x.toNat := by omega
        have hu : upb x = x := by unfold upb; rw [if_neg (by omega)]
        go_wp2
        go_roundw
        case rel =>
          refine ⟨i + 1, by omega, by go_num, fun j hj => ?_, hf.out, hbel.out⟩
          rw [hc.out j hj]
          rcases Nat.lt_trichotomy j i with h9 | h9 | h9
          · rw [if_pos h9, if_pos (by omega)]
          · subst h9
            rw [if_neg (by omega), if_pos (by omega), ← hx.out, hu]
          · rw [if_neg (by omega), if_neg (by omega)]
        case measure => simp [intOf]; omega
    · have hin : i = L.length := by omega
      subst hin
      have hcb : (convert 30 9 (.slice (some ⟨b, 0, none⟩) L.length cap)).run Tryd.prog wr = .ok (.string (upB s)) wr := by
        have h7 := run_convert_bytes_back (P := Tryd.prog) wr 30 9 5 ⟨b, 0, none⟩ cap (L.map upb) Tryd.underlying30 Tryd.underlying5 Tryd.underlying9 (fun j hj => by
          have h8 := hc j (by simpa using hj)
          rw [if_pos (by simpa using hj)] at h8
          have h9 : (⟨b, 0, none⟩ : Addr).add j = ⟨b, j, none⟩ := by unfold Addr.add; split <;> simp_all
          rw [h9]; simpa using h8)
        rw [List.length_map] at h7
        rw [h7, upB, upL, ← hL.out]
      clear hc hf
      replace hbel := Lib.hid hbel
      go_wp2
      go_ret
      rw [← hb.out]
      exact ⟨rfl, hbel.out⟩
end Go.Proofs.YtdhojdkeidilfaaDoor
