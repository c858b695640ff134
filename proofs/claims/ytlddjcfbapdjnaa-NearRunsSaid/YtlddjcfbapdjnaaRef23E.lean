/- The document's answer for layer 23: Fill, Keys. -/
import Derived.Test.YtlddjcfbapdjnaaRef23D
import Derived.Deep.QuietTactic
import Derived.BigQuiet
namespace Go.Proofs.Ytlddjcfbapdjnaa
open Go.RowKit

def flR (i : Nat) (w w' : World) : Prop := match i with
  | 8 => Below w.heap.size w w'
  | 9 => True
  | 12 => True
  | _ => w' = w
/-- The key of a ticket, among some. -/
theorem lookT_snoc {ts : List (Int × ByteArray)} {t : Int} (p : Int × ByteArray) : lookT (ts ++ [p]) t = match lookT ts t with | some k => some k | none => if p.1 = t then some p.2 else none := by
  simp only [lookT, List.find?_append]
  cases ts.find? (fun p => decide (p.1 = t)) with
  | some q => rfl
  | none => by_cases h : p.1 = t <;> simp [h]
theorem lookT_fresh {ts : List (Int × ByteArray)} {t : Int} {j : Nat} (hn : (ts.map (·.1)).Nodup) (hj : j < ts.length) (ht : ts[j].1 = t) : lookT (ts.take j) t = none := by
  rw [lookT_none]
  intro hm
  obtain ⟨q, hq, e⟩ := List.mem_map.1 hm
  obtain ⟨i, hi, rfl⟩ := List.getElem_of_mem hq
  rw [List.getElem_take] at e
  simp at hi
  have h1 := List.pairwise_iff_getElem.1 hn i j (by simp; omega) (by simpa using hj) (by omega)
  exact h1 (by simp [e, ht])
set_option maxRecDepth 100000 in
set_option maxHeartbeats 6400000 in
theorem ref_fill {c : Addr → Option Value} {W0 : World} {r : Nat} {sE sT : Value} {s : NS} (h : RN c W0 r sE sT s) (t : Int) {tv : V} {va : Option Addr} {vc : Nat} (hv : RV c (cells6 tv.kind tv.text tv.int tv.real tv.flag va tv.list.length vc) tv)
    (hn9 : s.es.length < 900000) (hm : s.ts.length < 1000000) (hnd : (s.es.map (·.1)).Nodup) (htd : (s.ts.map (·.1)).Nodup) :
    Calls Try.prog 40 #[P0 r, .int .i64 t, .agg #[.int .i64 tv.kind, .string tv.text, .int .i64 tv.int, .float .f64 tv.real, .bool tv.flag, .slice va tv.list.length vc]] W0 fun e w' => e = .returned (.bool (s.fills t)) ∧ ∃ sE' sT' : Value, RN c w' r sE' sT' (s.fill t tv) ∧ Went W0 (rfp r sE sT) w' (rfp r sE' sT') ∧ W0.heap.size ≤ w'.heap.size := by
  have hn : s.es.length < 1000000 := by omega
  obtain ⟨Wb, hWb⟩ : ∃ Wb, Wb = W0.alloc (.cells #[.int .i64 tv.kind, .string tv.text, .int .i64 tv.int, .float .f64 tv.real, .bool tv.flag, .slice va tv.list.length vc] 44) := ⟨_, rfl⟩
  have hbb : Below W0.heap.size W0 Wb := by rw [hWb]; exact (Below.refl _ _).alloc (Nat.le_refl _) _
  have hsb : Wb.heap.size = W0.heap.size + 1 := by rw [hWb]; simp
  have hbx0 : Wb.rangeAt W0.heap.size 0 [.int .i64 tv.kind, .string tv.text, .int .i64 tv.int, .float .f64 tv.real, .bool tv.flag, .slice va tv.list.length vc] := fun j u hj => by rw [hWb, Nat.zero_add, World.cell?_alloc_new]; simpa using hj
  have hlt0 := h.lt
  have hxo0 : W0.heap.size ∉ rfp r sE sT := fun hm => by have := (hlt0 _ hm).2; omega
  have hb := h.below hbb
  have hrow := hb.ts
  obtain ⟨at', ct, rfl⟩ := (Reads.of_owns hrow).shape
  have hc1 := hb.c1
  have hcW := h.c1
  have hrl0 := h.blk.lt
  have hrl := hb.blk.lt
  obtain ⟨W1, hW1⟩ : ∃ W1, W1 = Wb.alloc (.cells #[] 94) := ⟨_, rfl⟩
  have hb1 : Below Wb.heap.size Wb W1 := by rw [hW1]; exact (Below.refl _ _).alloc (Nat.le_refl _) _
  have hown0 : W1.ownsRow Wb.heap.size 94 2 (.slice (some ⟨Wb.heap.size, 0, none⟩) 0 0) 0 [] := by rw [hW1]; exact owns_empty Wb 94 2
  rw [hWb] at hW1
  obtain ⟨n, hne⟩ : ∃ n, n = s.ts.length := ⟨_, rfl⟩
  simp only [← hne] at hrow hc1 hcW hm
  replace h := Lib.hid h
  replace hb := Lib.hid hb
  replace hne := Lib.hid hne
  replace hW1 := Lib.hid hW1
  replace hWb := Lib.hid hWb
  replace hsb := Lib.hid hsb
  replace hb1 := Lib.hid hb1
  replace hbb := Lib.hid hbb
  replace hlt0 := Lib.hid hlt0
  replace hxo0 := Lib.hid hxo0
  replace hbx0 := Lib.hid hbx0
  have hown0' : W1.ownsRow Wb.heap.size 94 2 (.slice (some ⟨W0.heap.size + 1, 0, none⟩) 0 0) 0 [] := by rw [← hsb.out]; exact hown0
  clear hown0
  go_enter Try.func40, Try.ntmps40
  go_wp2_with fail
  rw [← hW1.out]
  go_loopw [7, 8, 9, 19] (fun s7 s8 s9 s19 wr => ∃ (j : Nat) (k : ByteArray) (b : Bool), j ≤ n ∧ s19 = .int .i64 j ∧ s8 = .string k ∧ s9 = .bool b ∧ (b = false → lookT (s.ts.take j) t = none) ∧ (b = true → lookT (s.ts.take j) t = some k) ∧
    wr.ownsRow Wb.heap.size 94 2 s7 (cutT (s.ts.take j) t).length (tcells (cutT (s.ts.take j) t)) ∧ Below Wb.heap.size Wb wr) (fun _ _ _ s19 _ => n - (intOf s19).toNat)
  case atStart => exact ⟨0, _, false, Nat.zero_le _, rfl, rfl, rfl, (fun _ => by simp [lookT]), (fun h => by cases h), by simpa [tcells, cutT] using hown0', hb1.out⟩
  case round =>
    clear hcW
    obtain ⟨j, k, b, hj, rfl, rfl, rfl, hnn, hss, hown, hbel⟩ := hrel
    have hc1r := cell_below hbel _ _ hc1
    by_cases hlt : j < n
    · obtain ⟨g, rfl⟩ := owns_some hrow (by omega)
      have hjl : j < s.ts.length := by have := hne.out; omega
      obtain ⟨d0, d1⟩ := tick_elem hrow hjl
      have hts := cutT_succ s.ts t j hjl
      have hfl := cutT_len s.ts t j
      have htk : s.ts.take (j + 1) = s.ts.take j ++ [s.ts[j]] := List.take_succ_eq_append_getElem hjl
      have hfr := lookT_fresh (t := t) htd hjl
      obtain ⟨p, hp⟩ : ∃ p, p = s.ts[j] := ⟨_, rfl⟩
      rw [← hp] at d0 d1 hts htk hfr
      replace d0 := cell_below hbel _ _ d0
      replace d1 := cell_below hbel _ _ d1
      have i0 : (0 : Int) ≤ (j : Int) := by omega
      have i1 : (j : Int) < (n : Int) := by omega
      replace hp := Lib.hid hp
      by_cases hk : p.1 = t
      · have e : (p.1 == t) = true := by simpa using hk
        have hfr' := hfr hk
        have hlk : lookT (s.ts.take (j + 1)) t = some p.2 := by rw [htk, lookT_snoc, hfr']; simp [hk]
        rw [if_neg (by simp [hk]), List.append_nil] at hts
        replace hts := Lib.hid hts
        replace hk := Lib.hid hk
        replace htk := Lib.hid htk
        replace hlk := Lib.hid hlk
        replace hnn := Lib.hid hnn
        replace hss := Lib.hid hss
        clear hfr hfr'
        go_wp2
        go_roundw
        case rel => exact ⟨j + 1, p.2, true, by omega, by go_num, rfl, rfl, (fun h => by cases h), (fun _ => hlk.out), by rw [hts.out]; exact owns_fr hown ((Fr.refl (fun _ => False) _).alloc _) (fun _ _ h => h), hbel.alloc hbel.size _⟩
        case measure => simp [intOf]; omega
      · have e : (p.1 == t) = false := by simpa using hk
        have hlk : lookT (s.ts.take (j + 1)) t = lookT (s.ts.take j) t := by
          rw [htk, lookT_snoc]
          cases lookT (s.ts.take j) t <;> simp [hk]
        rw [if_pos (by simp [hk])] at hts
        have hown1 := owns_fr hown ((Fr.refl (fun _ => False) wr).alloc (.cells #[.int .i64 p.1, .string p.2] 94)) (fun _ _ h => h)
        have hbel1 := hbel.alloc hbel.size (.cells #[.int .i64 p.1, .string p.2] 94)
        have hq : (cutT (s.ts.take j) t).length < 1000000000 := by omega
        have hsz1 := hbel1.size
        replace hts := Lib.hid hts
        replace hk := Lib.hid hk
        replace hfl := Lib.hid hfl
        replace hbel1 := Lib.hid hbel1
        replace htk := Lib.hid htk
        replace hlk := Lib.hid hlk
        replace hnn := Lib.hid hnn
        replace hss := Lib.hid hss
        clear hfr
        go_wp2_with (at_builtin; refine append_elem_at rfl rfl eTicket rfl hown1 (by simp [Act.eval]) rfl (by simp [Value.oneCell']) hq hsz1 ?_)
        intro v' w1 hown' hfr hnew
        have hbel' := Below.of_append hbel1.out hfr (fun k hk => (owns_block hown k hk).1) hsz1
        clear hown hown1 hbel hfr hnew d0 d1 hc1r hsz1
        go_wp2
        go_roundw
        case rel => exact ⟨j + 1, k, b, by omega, by go_num, rfl, rfl, (fun h => by rw [hlk.out]; exact hnn.out h), (fun h => by rw [hlk.out]; exact hss.out h), by rw [hts.out, tcells_snoc, List.length_append]; exact hown', hbel'⟩
        case measure => simp [intOf]; omega
    · obtain rfl : j = n := by omega
      rw [hne.out, List.take_length] at hown hnn hss
      obtain ⟨k1, k2⟩ := hb.out.setT ((Fr.of_below hbel).mono (fun i hi hle => absurd hle (by omega))) (ts' := cutT s.ts t) (owns_mono hown (by omega)) (fun k hk => Or.inr (owns_block hown k hk).1)
      have hz1 := (hbel.frozen (p := ⟨r, 1, none⟩) hrl).trans (hb.out.blk.frz 1 none)
      obtain ⟨a5, c5, rfl⟩ := (Reads.of_owns hown).shape
      have hbx := fun j u hj => cell_below hbel _ _ (hbx0.out j u hj)
      have hw1 := k2
      have m3 := k1.c3
      have hszw : W0.heap.size < wr.heap.size := by have := hbel.size; have := hsb.out; omega
      have hxr : W0.heap.size ≠ r := by omega
      have hbx2 : (wr.setCell ⟨r, 1, none⟩ (.slice a5 (cutT s.ts t).length c5)).rangeAt W0.heap.size 0 [.int .i64 tv.kind, .string tv.text, .int .i64 tv.int, .float .f64 tv.real, .bool tv.flag, .slice va tv.list.length vc] := fun j u hj => by
        rw [cell_set_ne (fun e => hxr (congrArg Addr.block e).symm)]; exact hbx j u hj
      replace k1 := Lib.hid k1
      replace hw1 := Lib.hid hw1
      replace hbx2 := Lib.hid hbx2
      clear hown hrow hbx k2
      cases b with
      | false =>
        have hlk := hnn rfl
        have hf1 : s.fills t = false := by simp [NS.fills, hlk]
        have hf2 : s.fill t tv = { s with ts := cutT s.ts t } := by rw [NS.fill, hlk]; rfl
        replace hf1 := Lib.hid hf1
        replace hf2 := Lib.hid hf2
        replace hlk := Lib.hid hlk
        clear hnn hss
        go_wp2
        go_ret
        exact ⟨by rw [hf1.out]; rfl, sE, .slice a5 _ c5, by rw [hf2.out]; exact k1.out, (Went.of_below hbb.out).trans hw1.out, ((Went.of_below hbb.out).trans hw1.out).1.size⟩
      | true =>
        have hlk := hss rfl
        by_cases h0 : s.most = 0
        · have e0 : (s.most == 0) = true := by simpa using h0
          have hf1 : s.fills t = false := by simp [NS.fills, hlk, h0]
          have hf2 : s.fill t tv = { s with ts := cutT s.ts t } := by rw [NS.fill, hlk]; exact if_pos h0
          replace hf1 := Lib.hid hf1
          replace hf2 := Lib.hid hf2
          replace hlk := Lib.hid hlk
          replace h0 := Lib.hid h0
          clear hnn hss
          go_wp2
          go_ret
          exact ⟨by rw [hf1.out]; rfl, sE, .slice a5 _ c5, by rw [hf2.out]; exact k1.out, (Went.of_below hbb.out).trans hw1.out, ((Went.of_below hbb.out).trans hw1.out).1.size⟩
        · have e0 : (s.most == 0) = false := by simpa using h0
          have hf1 : s.fills t = true := by simp [NS.fills, hlk, h0]
          have hf2 : s.fill t tv = ({ s with ts := cutT s.ts t } : NS).put k tv := by rw [NS.fill, hlk]; exact if_neg h0
          have hsp := findI_spec s.es k
          replace hf1 := Lib.hid hf1
          replace hf2 := Lib.hid hf2
          replace hlk := Lib.hid hlk
          replace h0 := Lib.hid h0
          replace hsp := Lib.hid hsp
          clear hnn hss
          obtain ⟨key, hkey⟩ : ∃ key, key = k := ⟨_, rfl⟩
          subst hkey
          go_wp2_with fail
          refine (ref_find k1.out key hn).mono ?_
          rintro e w2 ⟨rfl, hb2⟩
          have k3 := k1.out.below hb2
          have hw3 := hw1.out.trans (Went.of_below hb2)
          have hbx3 : w2.rangeAt W0.heap.size 0 [.int .i64 tv.kind, .string tv.text, .int .i64 tv.int, .float .f64 tv.real, .bool tv.flag, .slice va tv.list.length vc] := fun j u hj => cell_below hb2 _ _ (hbx2.out j u hj)
          rcases hsp.out with ⟨hlke, hfi⟩ | ⟨i, hi, hfi, hki, hlke, _⟩
          · have hfi' : findI ({ s with ts := cutT s.ts t } : NS).es key = -1 := hfi
            rw [hfi']
            obtain ⟨E, hE⟩ : ∃ E, E = s.es := ⟨_, rfl⟩
            have hput : putE s.es key tv = E ++ [(key, tv)] := by rw [putE, filter_none hlke, hE]
            have hEl : E.length < 900000 := by rw [hE]; exact hn9
            have hEl2 : E.length ≤ 999999 := by omega
            obtain ⟨w4, hw4e⟩ : ∃ w4, w4 = w2 := ⟨_, rfl⟩
            subst hw4e
            obtain ⟨sT4, hsT4⟩ : ∃ sT4, sT4 = Value.slice a5 (cutT s.ts t).length c5 := ⟨_, rfl⟩
            have h4 : RN c w4 r sE sT4 { s with ts := cutT s.ts t, es := E } := by rw [hsT4, hE]; exact k3
            have hw4 : Went Wb (rfp r sE (.slice at' s.ts.length ct)) w4 (rfp r sE sT4) := by rw [hsT4]; exact hw3
            have hbx := hbx3
            replace hE := Lib.hid hE
            replace hput := Lib.hid hput
            replace hsT4 := Lib.hid hsT4
            replace hlke := Lib.hid hlke
            replace hfi := Lib.hid hfi
            replace hfi' := Lib.hid hfi'
            replace k3 := Lib.hid k3
            replace hw3 := Lib.hid hw3
            clear hsp hbx3
            obtain ⟨css4, f1, f2⟩ := h4.es
            obtain ⟨ae, ce, rfl⟩ := (Reads.of_owns f2).shape
            have hc0 := h4.c0
            have hblk := h4.blk
            have hrl := hblk.lt
            have hxn : W0.heap.size ∉ rfp r (.slice ae E.length ce) sT4 := fun hm => by
              rcases hw4.2 _ hm with h5 | h5
              · exact hxo0.out h5
              · have := hsb.out; omega
            have hro : ¬ (Value.slice ae E.length ce).ownBlock = some r := fun e => by have := (owns_block f2 r e).1; omega
            have hbo : ¬ (W0.heap.size = r ∨ (Value.slice ae E.length ce).ownBlock = some W0.heap.size) := fun e => by
              rcases e with e | e
              · exact hxn (mem_rfp.2 (Or.inl e))
              · exact hxn (mem_rfp.2 (Or.inr (Or.inl e)))
            obtain ⟨ne, hnee⟩ : ∃ ne, ne = E.length := ⟨_, rfl⟩
            have hel : ne < 1000000 := by omega
            have hrow : w4.ownsRow (r + 1) 91 7 (.slice ae ne ce) ne css4.flatten := by rw [hnee]; exact f2
            simp only [← hnee] at hc0 hro hbo
            obtain ⟨xs, hxs⟩ : ∃ xs, xs = css4.flatten := ⟨_, rfl⟩
            rw [← hxs] at hrow
            replace h4 := Lib.hid h4
            replace hw4 := Lib.hid hw4
            replace hnee := Lib.hid hnee
            replace hxs := Lib.hid hxs
            replace f1 := Lib.hid f1
            replace f2 := Lib.hid f2
            replace hbx := Lib.hid hbx
            replace hrow := Lib.hid hrow
            go_wp2_with fail
            obtain ⟨W, hWe⟩ : ∃ W, W = w4 := ⟨_, rfl⟩
            subst hWe
            replace hbx := hbx.out
            replace hrow := hrow.out
            refine wp_region_rely (l := [_, _, _, _, _, _, _, _, _, _, _, _, _]) (Fr (fun k => k = r ∨ (Value.slice ae ne ce).ownBlock = some k) W) (Below W.heap.size W) flR (fun k => ([fun v _ => v = P0 r, fun v _ => v = P0 r, fun v _ => v = P0 r, fun v _ => v = P0 r, fun v _ => v = .slice ae ne ce, fun v _ => v = .string key, fun v _ => v = .agg #[.int .i64 tv.kind, .string tv.text, .int .i64 tv.int, .float .f64 tv.real, .bool tv.flag, .slice va tv.list.length vc], fun v _ => v = .agg #[.string key, .int .i64 tv.kind, .string tv.text, .int .i64 tv.int, .float .f64 tv.real, .bool tv.flag, .slice va tv.list.length vc], fun v w => ∃ b, v = .slice (some ⟨b, 0, none⟩) 1 1 ∧ w.heap[b]? = some (.cells #[.string key, .int .i64 tv.kind, .string tv.text, .int .i64 tv.int, .float .f64 tv.real, .bool tv.flag, .slice va tv.list.length vc] 91 (0, 0)), fun v w => Fr (fun k => (Value.slice ae ne ce).ownBlock = some k) W w ∧ w.ownsRow (r + 1) 91 7 v (ne + 1) (xs ++ ([.string key, .int .i64 tv.kind, .string tv.text, .int .i64 tv.int, .float .f64 tv.real, .bool tv.flag, .slice va tv.list.length vc] : List Value)) ∧ ∀ k, v.ownBlock = some k → (Value.slice ae ne ce).ownBlock = some k ∨ W.heap.size ≤ k, fun v _ => v = P0 r, fun v _ => v = P0 r, fun v w => ∃ (v1 : Value) (w1 : World), w = w1.setCell ⟨r, 0, none⟩ v1 ∧ Fr (fun k => (Value.slice ae ne ce).ownBlock = some k) W w1 ∧ w1.ownsRow (r + 1) 91 7 v1 (ne + 1) (xs ++ ([.string key, .int .i64 tv.kind, .string tv.text, .int .i64 tv.int, .float .f64 tv.real, .bool tv.flag, .slice va tv.list.length vc] : List Value)) ∧ ∀ k, v1.ownBlock = some k → (Value.slice ae ne ce).ownBlock = some k ∨ W.heap.size ≤ k] : List (Value → World → Prop)).getD k (fun _ _ => True)) (eats [(9, 8), (12, 9)]) (isIn [9, 12]) (by kernel_rfl) (by kernel_rfl) (by kernel_rfl) ((Fr.refl _ _).drew) ((Below.refl _ _).drew) ?_ ?_ ?_ ?_
            · intro i k u w w' hne hE hg hr
              rcases k with _ | _ | _ | _ | _ | _ | _ | _ | _ | _ | _ | _ | _ | k
              · exact hg
              · exact hg
              · exact hg
              · exact hg
              · exact hg
              · exact hg
              · exact hg
              · exact hg
              · replace hg : (fun (v : Value) (w : World) => ∃ b, v = .slice (some ⟨b, 0, none⟩) 1 1 ∧ w.heap[b]? = some (.cells #[.string key, .int .i64 tv.kind, .string tv.text, .int .i64 tv.int, .float .f64 tv.real, .bool tv.flag, .slice va tv.list.length vc] 91 (0, 0))) u w := hg
                show (fun (v : Value) (w : World) => ∃ b, v = .slice (some ⟨b, 0, none⟩) 1 1 ∧ w.heap[b]? = some (.cells #[.string key, .int .i64 tv.kind, .string tv.text, .int .i64 tv.int, .float .f64 tv.real, .bool tv.flag, .slice va tv.list.length vc] 91 (0, 0))) u w'
                dsimp only at hg ⊢
                replace hE : exB _ _ i 8 = false := hE
                replace hne : 8 ≠ i := hne
                unfold flR at hr
                split at hr
                all_goals first
                  | exact absurd rfl hne
                  | exact absurd (hE.symm.trans (by decide +kernel : exB _ _ _ _ = true)) (by decide)
                  | (subst hr; exact hg)
                  | ((obtain ⟨b, h1, h2⟩ := hg; exact ⟨b, h1, (hr.block b (Array.getElem?_eq_some_iff.1 h2).1).trans h2⟩))
              · replace hg : (fun (v : Value) (w : World) => Fr (fun k => (Value.slice ae ne ce).ownBlock = some k) W w ∧ w.ownsRow (r + 1) 91 7 v (ne + 1) (xs ++ ([.string key, .int .i64 tv.kind, .string tv.text, .int .i64 tv.int, .float .f64 tv.real, .bool tv.flag, .slice va tv.list.length vc] : List Value)) ∧ ∀ k, v.ownBlock = some k → (Value.slice ae ne ce).ownBlock = some k ∨ W.heap.size ≤ k) u w := hg
                show (fun (v : Value) (w : World) => Fr (fun k => (Value.slice ae ne ce).ownBlock = some k) W w ∧ w.ownsRow (r + 1) 91 7 v (ne + 1) (xs ++ ([.string key, .int .i64 tv.kind, .string tv.text, .int .i64 tv.int, .float .f64 tv.real, .bool tv.flag, .slice va tv.list.length vc] : List Value)) ∧ ∀ k, v.ownBlock = some k → (Value.slice ae ne ce).ownBlock = some k ∨ W.heap.size ≤ k) u w'
                dsimp only at hg ⊢
                replace hE : exB _ _ i 9 = false := hE
                replace hne : 9 ≠ i := hne
                unfold flR at hr
                split at hr
                all_goals first
                  | exact absurd rfl hne
                  | exact absurd (hE.symm.trans (by decide +kernel : exB _ _ _ _ = true)) (by decide)
                  | (subst hr; exact hg)
                  | (fail)
              · exact hg
              · exact hg
              · replace hg : (fun (v : Value) (w : World) => ∃ (v1 : Value) (w1 : World), w = w1.setCell ⟨r, 0, none⟩ v1 ∧ Fr (fun k => (Value.slice ae ne ce).ownBlock = some k) W w1 ∧ w1.ownsRow (r + 1) 91 7 v1 (ne + 1) (xs ++ ([.string key, .int .i64 tv.kind, .string tv.text, .int .i64 tv.int, .float .f64 tv.real, .bool tv.flag, .slice va tv.list.length vc] : List Value)) ∧ ∀ k, v1.ownBlock = some k → (Value.slice ae ne ce).ownBlock = some k ∨ W.heap.size ≤ k) u w := hg
                show (fun (v : Value) (w : World) => ∃ (v1 : Value) (w1 : World), w = w1.setCell ⟨r, 0, none⟩ v1 ∧ Fr (fun k => (Value.slice ae ne ce).ownBlock = some k) W w1 ∧ w1.ownsRow (r + 1) 91 7 v1 (ne + 1) (xs ++ ([.string key, .int .i64 tv.kind, .string tv.text, .int .i64 tv.int, .float .f64 tv.real, .bool tv.flag, .slice va tv.list.length vc] : List Value)) ∧ ∀ k, v1.ownBlock = some k → (Value.slice ae ne ce).ownBlock = some k ∨ W.heap.size ≤ k) u w'
                dsimp only at hg ⊢
                replace hE : exB _ _ i 12 = false := hE
                replace hne : 12 ≠ i := hne
                unfold flR at hr
                split at hr
                all_goals first
                  | exact absurd rfl hne
                  | exact absurd (hE.symm.trans (by decide +kernel : exB _ _ _ _ = true)) (by decide)
                  | (subst hr; exact hg)
                  | (fail)
              · trivial
            · intro i w w' hF hI hr
              unfold flR at hr
              split at hr
              · exact hI.trans (hr.mono hI.size)
              · exact absurd hF (by decide)
              · exact absurd hF (by decide)
              · subst hr; exact hI
            · refine ⟨?_, ?_, ?_, ?_, ?_, ?_, ?_, ?_, ?_, ?_, ?_, ?_, ?_, trivial⟩
              · refine VC.plain rfl fun a wx hf => ?_
                have s0 := hf.old 0 (by rfl)
                have q0 := evalQ s0
                exact gives_value (by simp [go_sem, q0]) ⟨hf.c, rfl, rfl⟩
              · refine VC.plain rfl fun a wx hf => ?_
                have s0 := hf.old 0 (by rfl)
                have q0 := evalQ s0
                exact gives_value (by simp [go_sem, q0]) ⟨hf.c, rfl, rfl⟩
              · refine VC.plain rfl fun a wx hf => ?_
                obtain ⟨v56, g56, s56⟩ := hf.got 1 (by kernel_rfl) (by intro j hj; simp [eats] at hj) rfl rfl
                replace s56 := s56.trans (show v56 = P0 r from g56)
                clear g56
                have q56 := evalQ s56
                exact gives_value (by simp [go_sem, q56]) ⟨hf.c, rfl, rfl⟩
              · refine VC.plain rfl fun a wx hf => ?_
                obtain ⟨v57, g57, s57⟩ := hf.got 2 (by kernel_rfl) (by intro j hj; simp [eats] at hj) rfl rfl
                replace s57 := s57.trans (show v57 = P0 r from g57)
                clear g57
                have q57 := evalQ s57
                exact gives_value (by simp [go_sem, q57]) ⟨hf.c, rfl, rfl⟩
              · refine VC.plain rfl fun a wx hf => ?_
                obtain ⟨v58, g58, s58⟩ := hf.got 3 (by kernel_rfl) (by intro j hj; simp [eats] at hj) rfl rfl
                replace s58 := s58.trans (show v58 = P0 r from g58)
                clear g58
                have q58 := evalQ s58
                have hI := hf.start (by kernel_rfl)
                exact gives_value (by simp [go_sem, q58, hI.cell (p := ⟨r, 0, none⟩) hrl, hc0]) ⟨hf.c, rfl, rfl⟩
              · refine VC.plain rfl fun a wx hf => ?_
                have s8 := hf.old 8 (by rfl)
                have q8 := evalQ s8
                exact gives_value (by simp [go_sem, q8]) ⟨hf.c, rfl, rfl⟩
              · refine VC.plain rfl fun a wx hf => ?_
                have s5 := hf.old 5 (by rfl)
                have q5 := evalQ s5
                exact gives_load_mid rfl s5 (fun j u hj => hf.c.cell (hbx j u hj) hbo) Try.underlying44 rfl infoVal ⟨hf.c, rfl, rfl⟩
              · refine VC.plain rfl fun a wx hf => ?_
                obtain ⟨v60, g60, s60⟩ := hf.got 5 (by kernel_rfl) (by intro j hj; simp [eats] at hj) rfl rfl
                replace s60 := s60.trans (show v60 = .string key from g60)
                clear g60
                have q60 := evalQ s60
                obtain ⟨v61, g61, s61⟩ := hf.got 6 (by kernel_rfl) (by intro j hj; simp [eats] at hj) rfl rfl
                replace s61 := s61.trans (show v61 = .agg #[.int .i64 tv.kind, .string tv.text, .int .i64 tv.int, .float .f64 tv.real, .bool tv.flag, .slice va tv.list.length vc] from g61)
                clear g61
                have q61 := evalQ s61
                exact gives_value (by simp [go_sem, q60, q61, Try.underlying91]) ⟨hf.c, rfl, rfl⟩
              · refine VC.plain rfl fun a wx hf => ?_
                obtain ⟨v62, g62, s62⟩ := hf.got 7 (by kernel_rfl) (by intro j hj; simp [eats] at hj) rfl rfl
                replace s62 := s62.trans (show v62 = .agg #[.string key, .int .i64 tv.kind, .string tv.text, .int .i64 tv.int, .float .f64 tv.real, .bool tv.flag, .slice va tv.list.length vc] from g62)
                clear g62
                have q62 := evalQ s62
                exact gives_value (u := .slice (some ⟨wx.heap.size, 0, none⟩) 1 1) (w' := wx.alloc (.cells #[.string key, .int .i64 tv.kind, .string tv.text, .int .i64 tv.int, .float .f64 tv.real, .bool tv.flag, .slice va tv.list.length vc] 91)) (by simp [go_sem, q62, Try.underlying68]) ⟨hf.c.alloc _, (Below.refl _ _).alloc (Nat.le_refl _) _, wx.heap.size, rfl, (MapKept.heap_alloc wx _).1⟩
              · refine VC.plain rfl fun a wx hf => ?_
                obtain ⟨v59, g59, s59⟩ := hf.got 4 (by kernel_rfl) (by intro j hj; simp [eats] at hj) rfl rfl
                replace s59 := s59.trans (show v59 = .slice ae ne ce from g59)
                clear g59
                have q59 := evalQ s59
                obtain ⟨v63, g63, s63⟩ := hf.got 8 (by kernel_rfl) (by intro j hj; simp [eats] at hj; omega) rfl rfl
                have q63 := evalQ s63
                replace g63 : (fun (v : Value) (w : World) => ∃ b, v = .slice (some ⟨b, 0, none⟩) 1 1 ∧ w.heap[b]? = some (.cells #[.string key, .int .i64 tv.kind, .string tv.text, .int .i64 tv.int, .float .f64 tv.real, .bool tv.flag, .slice va tv.list.length vc] 91 (0, 0))) v63 wx := g63
                dsimp only at g63
                have hI := hf.start (by kernel_rfl)
                obtain ⟨b, rfl, hb⟩ := g63
                have hown1 : wx.ownsRow (r + 1) 91 7 (.slice ae ne ce) ne xs := owns_fr hrow (Fr.of_below hI) (fun k hk hle => by have := (owns_block hrow k hk).2; omega)
                refine gives_append rfl eEntry s59 hown1 s63 (reads_block hb rfl) (fun h => by cases h) (by simp [Value.oneCell']) (by omega) (by have := hI.size; omega) (fun v' w' h1 h2 h3 => ?_)
                have hfr : Fr (fun k => (Value.slice ae ne ce).ownBlock = some k) W w' := Fr.trans ((Fr.of_below hI).mono (fun j hj hle => absurd hle (by omega))) h2
                refine ⟨hfr.mono (fun i _ h => Or.inr h), trivial, hfr, h1, fun k hk => ?_⟩
                rcases h3 k hk with h | h
                · exact Or.inl h
                · exact Or.inr (Nat.le_trans hI.size h)
              · refine VC.plain rfl fun a wx hf => ?_
                obtain ⟨v55, g55, s55⟩ := hf.got 0 (by kernel_rfl) (by intro j hj; simp [eats] at hj) rfl rfl
                replace s55 := s55.trans (show v55 = P0 r from g55)
                clear g55
                have q55 := evalQ s55
                exact gives_value (by simp [go_sem, q55]) ⟨hf.c, rfl, rfl⟩
              · refine VC.plain rfl fun a wx hf => ?_
                obtain ⟨v65, g65, s65⟩ := hf.got 10 (by kernel_rfl) (by intro j hj; simp [eats] at hj) rfl rfl
                replace s65 := s65.trans (show v65 = P0 r from g65)
                clear g65
                have q65 := evalQ s65
                exact gives_value (by simp [go_sem, q65]) ⟨hf.c, rfl, rfl⟩
              · refine VC.plain rfl fun a wx hf => ?_
                obtain ⟨v66, g66, s66⟩ := hf.got 11 (by kernel_rfl) (by intro j hj; simp [eats] at hj) rfl rfl
                replace s66 := s66.trans (show v66 = P0 r from g66)
                clear g66
                have q66 := evalQ s66
                obtain ⟨v64, g64, s64⟩ := hf.got 9 (by kernel_rfl) (by intro j hj; simp [eats] at hj; omega) rfl rfl
                have q64 := evalQ s64
                replace g64 : (fun (v : Value) (w : World) => Fr (fun k => (Value.slice ae ne ce).ownBlock = some k) W w ∧ w.ownsRow (r + 1) 91 7 v (ne + 1) (xs ++ ([.string key, .int .i64 tv.kind, .string tv.text, .int .i64 tv.int, .float .f64 tv.real, .bool tv.flag, .slice va tv.list.length vc] : List Value)) ∧ ∀ k, v.ownBlock = some k → (Value.slice ae ne ce).ownBlock = some k ∨ W.heap.size ≤ k) v64 wx := g64
                dsimp only at g64
                obtain ⟨h1, h2, h3⟩ := g64
                obtain ⟨a31, c31, rfl⟩ := (Reads.of_owns h2).shape
                exact gives_skip (w' := wx.setCell ⟨r, 0, none⟩ _) (by simp [go_sem, q64, q66, h1.cell (p := ⟨r, 0, none⟩) hc0 hro, (hblk.fr h1 hro).frz 0 none]) ⟨Fr.setCell (S := fun k => k = r ∨ (Value.slice ae ne ce).ownBlock = some k) hf.c (fun _ => Or.inl rfl) _, trivial, _, wx, rfl, h1, h2, h3⟩
            · intro vs w5 hb hG
              obtain ⟨v1, w6, e, g1, g2, g3⟩ := hG 12 (by decide) (by decide)
              clear hG
              subst e
              have g1' := g1.mono (T := fun k => (Value.slice ae E.length ce).ownBlock = some k) (fun j _ e => by rw [← hnee.out]; exact e)
              rw [hxs.out, hnee.out] at g2
              have hel2 := f1.out.snoc (cs := cells6 tv.kind tv.text tv.int tv.real tv.flag va tv.list.length vc) (k := key) (v := tv) hv
              obtain ⟨k1, k2⟩ := h4.out.setE g1' hel2 (by simpa [cells6] using g2) (fun k hk => by rw [← hnee.out]; exact g3 k hk)
              have hw5 := hw4.out.trans k2
              obtain ⟨a8, c8, rfl⟩ := (Reads.of_owns g2).shape
              have m0 := k1.c0
              have m3 := k1.c3
              have hlen : (E ++ [(key, tv)]).length = ne + 1 := by rw [hnee.out]; simp
              generalize w6.setCell ⟨r, 0, none⟩ (Value.slice a8 (E.length + 1) c8) = w8 at *
              simp only [← hnee.out] at m0 m3
              replace k1 := Lib.hid k1
              replace k2 := Lib.hid k2
              replace hw5 := Lib.hid hw5
              replace hlen := Lib.hid hlen
              clear g1 g1' g2 g3 hc0 hro hbo hbx hrow hel2
              simp only [putFrom, Act.put, List.setIfInBounds_toArray, List.set_cons_zero, List.set_cons_succ]
              have hput' : ({ s with ts := cutT s.ts t } : NS).put key tv = { s with ts := cutT s.ts t, es := if s.most < ((ne + 1 : Nat) : Int) then (E ++ [(key, tv)]).tail else E ++ [(key, tv)] } := by
                rw [NS.put]
                simp only [hput.out, hlen.out]
              replace hput' := Lib.hid hput'
              by_cases hgt : s.most < ((ne + 1 : Nat) : Int)
              · have e1 : decide (s.most < (ne : Int) + 1) = true := by simp; omega
                have hpt : s.fill t tv = { s with ts := cutT s.ts t, es := (E ++ [(key, tv)]).eraseIdx 0 } := by rw [hf2.out, hput'.out, if_pos hgt, List.eraseIdx_zero]
                replace hpt := Lib.hid hpt
                go_wp2_with fail
                go_quiet (fail)
                have k5 := k1.out.below (Below.drewN (m := nq) (Below.refl _ _))
                have hw6 := hw5.out.trans (Went.of_below (Below.drewN (m := nq) (Below.refl _ _)))
                replace k5 := Lib.hid k5
                replace hw6 := Lib.hid hw6
                go_wp2_with fail
                refine (ref_without k5.out 0 (by simp) (by have := hlen.out; have := hnee.out; show (E ++ [(key, tv)]).length < _; omega)).mono ?_
                rintro e w9 ⟨sE9, rfl, h9, hw9, hsz9, _⟩
                have hwf := (Went.of_below hbb.out).trans (hw6.out.trans hw9)
                replace h9 := Lib.hid h9
                replace hwf := Lib.hid hwf
                clear hw9
                go_wp2
                go_ret
                exact ⟨by rw [hf1.out]; rfl, sE9, sT4, by rw [hpt.out]; exact h9.out, hwf.out, hwf.out.1.size⟩
              · have e1 : decide (s.most < (ne : Int) + 1) = false := by simp; omega
                have hpt : s.fill t tv = { s with ts := cutT s.ts t, es := E ++ [(key, tv)] } := by rw [hf2.out, hput'.out, if_neg hgt]
                replace hpt := Lib.hid hpt
                go_wp2_with fail
                go_quiet (fail)
                have k5 := k1.out.below (Below.drewN (m := nq) (Below.refl _ _))
                have hwf := (Went.of_below hbb.out).trans (hw5.out.trans (Went.of_below (Below.drewN (m := nq) (Below.refl _ _))))
                replace k5 := Lib.hid k5
                replace hwf := Lib.hid hwf
                go_wp2
                go_ret
                exact ⟨by rw [hf1.out]; rfl, _, sT4, by rw [hpt.out]; exact k5.out, hwf.out, hwf.out.1.size⟩
          · have hfi' : findI ({ s with ts := cutT s.ts t } : NS).es key = i := hfi
            rw [hfi']
            obtain ⟨E, hE⟩ : ∃ E, E = s.es.eraseIdx i := ⟨_, rfl⟩
            have hput : putE s.es key tv = E ++ [(key, tv)] := by rw [putE, ← erase_filter hnd hi hki, hE]
            have hEl : E.length < 900000 := by rw [hE, List.length_eraseIdx]; split <;> omega
            have hEl2 : E.length ≤ 999999 := by omega
            have i0 : (0 : Int) ≤ (i : Int) := by omega
            replace hE := Lib.hid hE
            replace hput := Lib.hid hput
            replace hlke := Lib.hid hlke
            replace hfi := Lib.hid hfi
            replace hfi' := Lib.hid hfi'
            replace hki := Lib.hid hki
            replace k3 := Lib.hid k3
            replace hw3 := Lib.hid hw3
            replace hbx3 := Lib.hid hbx3
            clear hsp
            go_wp2_with fail
            refine (ref_without k3.out i hi hn).mono ?_
            rintro e w4 ⟨sE4, rfl, h4, hw4', hsz4, _⟩
            obtain ⟨sT4, hsT4⟩ : ∃ sT4, sT4 = Value.slice a5 (cutT s.ts t).length c5 := ⟨_, rfl⟩
            rw [← hsT4] at h4 hw4'
            have hbx : w4.rangeAt W0.heap.size 0 [.int .i64 tv.kind, .string tv.text, .int .i64 tv.int, .float .f64 tv.real, .bool tv.flag, .slice va tv.list.length vc] := fun j u hj => hw4'.1.cell (hbx3.out j u hj) (fun hm => by
              rw [hsT4] at hm
              rcases hw3.out.2 _ hm with h5 | h5
              · exact hxo0.out h5
              · have h6 : Wb.heap.size ≤ W0.heap.size := h5
                have := hsb.out; omega)
            have hw4 : Went Wb (rfp r sE (.slice at' s.ts.length ct)) w4 (rfp r sE4 sT4) := hw3.out.trans (by rw [← hsT4]; exact hw4')
            have h4 : RN c w4 r sE4 sT4 { s with ts := cutT s.ts t, es := E } := by rw [hE.out]; exact h4
            replace hsT4 := Lib.hid hsT4
            clear hw4'
            obtain ⟨css4, f1, f2⟩ := h4.es
            obtain ⟨ae, ce, rfl⟩ := (Reads.of_owns f2).shape
            have hc0 := h4.c0
            have hblk := h4.blk
            have hrl := hblk.lt
            have hxn : W0.heap.size ∉ rfp r (.slice ae E.length ce) sT4 := fun hm => by
              rcases hw4.2 _ hm with h5 | h5
              · exact hxo0.out h5
              · have := hsb.out; omega
            have hro : ¬ (Value.slice ae E.length ce).ownBlock = some r := fun e => by have := (owns_block f2 r e).1; omega
            have hbo : ¬ (W0.heap.size = r ∨ (Value.slice ae E.length ce).ownBlock = some W0.heap.size) := fun e => by
              rcases e with e | e
              · exact hxn (mem_rfp.2 (Or.inl e))
              · exact hxn (mem_rfp.2 (Or.inr (Or.inl e)))
            obtain ⟨ne, hnee⟩ : ∃ ne, ne = E.length := ⟨_, rfl⟩
            have hel : ne < 1000000 := by omega
            have hrow : w4.ownsRow (r + 1) 91 7 (.slice ae ne ce) ne css4.flatten := by rw [hnee]; exact f2
            simp only [← hnee] at hc0 hro hbo
            obtain ⟨xs, hxs⟩ : ∃ xs, xs = css4.flatten := ⟨_, rfl⟩
            rw [← hxs] at hrow
            replace h4 := Lib.hid h4
            replace hw4 := Lib.hid hw4
            replace hnee := Lib.hid hnee
            replace hxs := Lib.hid hxs
            replace f1 := Lib.hid f1
            replace f2 := Lib.hid f2
            replace hbx := Lib.hid hbx
            replace hrow := Lib.hid hrow
            go_wp2_with fail
            obtain ⟨W, hWe⟩ : ∃ W, W = w4 := ⟨_, rfl⟩
            subst hWe
            replace hbx := hbx.out
            replace hrow := hrow.out
            refine wp_region_rely (l := [_, _, _, _, _, _, _, _, _, _, _, _, _]) (Fr (fun k => k = r ∨ (Value.slice ae ne ce).ownBlock = some k) W) (Below W.heap.size W) flR (fun k => ([fun v _ => v = P0 r, fun v _ => v = P0 r, fun v _ => v = P0 r, fun v _ => v = P0 r, fun v _ => v = .slice ae ne ce, fun v _ => v = .string key, fun v _ => v = .agg #[.int .i64 tv.kind, .string tv.text, .int .i64 tv.int, .float .f64 tv.real, .bool tv.flag, .slice va tv.list.length vc], fun v _ => v = .agg #[.string key, .int .i64 tv.kind, .string tv.text, .int .i64 tv.int, .float .f64 tv.real, .bool tv.flag, .slice va tv.list.length vc], fun v w => ∃ b, v = .slice (some ⟨b, 0, none⟩) 1 1 ∧ w.heap[b]? = some (.cells #[.string key, .int .i64 tv.kind, .string tv.text, .int .i64 tv.int, .float .f64 tv.real, .bool tv.flag, .slice va tv.list.length vc] 91 (0, 0)), fun v w => Fr (fun k => (Value.slice ae ne ce).ownBlock = some k) W w ∧ w.ownsRow (r + 1) 91 7 v (ne + 1) (xs ++ ([.string key, .int .i64 tv.kind, .string tv.text, .int .i64 tv.int, .float .f64 tv.real, .bool tv.flag, .slice va tv.list.length vc] : List Value)) ∧ ∀ k, v.ownBlock = some k → (Value.slice ae ne ce).ownBlock = some k ∨ W.heap.size ≤ k, fun v _ => v = P0 r, fun v _ => v = P0 r, fun v w => ∃ (v1 : Value) (w1 : World), w = w1.setCell ⟨r, 0, none⟩ v1 ∧ Fr (fun k => (Value.slice ae ne ce).ownBlock = some k) W w1 ∧ w1.ownsRow (r + 1) 91 7 v1 (ne + 1) (xs ++ ([.string key, .int .i64 tv.kind, .string tv.text, .int .i64 tv.int, .float .f64 tv.real, .bool tv.flag, .slice va tv.list.length vc] : List Value)) ∧ ∀ k, v1.ownBlock = some k → (Value.slice ae ne ce).ownBlock = some k ∨ W.heap.size ≤ k] : List (Value → World → Prop)).getD k (fun _ _ => True)) (eats [(9, 8), (12, 9)]) (isIn [9, 12]) (by kernel_rfl) (by kernel_rfl) (by kernel_rfl) ((Fr.refl _ _).drew) ((Below.refl _ _).drew) ?_ ?_ ?_ ?_
            · intro i k u w w' hne hE hg hr
              rcases k with _ | _ | _ | _ | _ | _ | _ | _ | _ | _ | _ | _ | _ | k
              · exact hg
              · exact hg
              · exact hg
              · exact hg
              · exact hg
              · exact hg
              · exact hg
              · exact hg
              · replace hg : (fun (v : Value) (w : World) => ∃ b, v = .slice (some ⟨b, 0, none⟩) 1 1 ∧ w.heap[b]? = some (.cells #[.string key, .int .i64 tv.kind, .string tv.text, .int .i64 tv.int, .float .f64 tv.real, .bool tv.flag, .slice va tv.list.length vc] 91 (0, 0))) u w := hg
                show (fun (v : Value) (w : World) => ∃ b, v = .slice (some ⟨b, 0, none⟩) 1 1 ∧ w.heap[b]? = some (.cells #[.string key, .int .i64 tv.kind, .string tv.text, .int .i64 tv.int, .float .f64 tv.real, .bool tv.flag, .slice va tv.list.length vc] 91 (0, 0))) u w'
                dsimp only at hg ⊢
                replace hE : exB _ _ i 8 = false := hE
                replace hne : 8 ≠ i := hne
                unfold flR at hr
                split at hr
                all_goals first
                  | exact absurd rfl hne
                  | exact absurd (hE.symm.trans (by decide +kernel : exB _ _ _ _ = true)) (by decide)
                  | (subst hr; exact hg)
                  | ((obtain ⟨b, h1, h2⟩ := hg; exact ⟨b, h1, (hr.block b (Array.getElem?_eq_some_iff.1 h2).1).trans h2⟩))
              · replace hg : (fun (v : Value) (w : World) => Fr (fun k => (Value.slice ae ne ce).ownBlock = some k) W w ∧ w.ownsRow (r + 1) 91 7 v (ne + 1) (xs ++ ([.string key, .int .i64 tv.kind, .string tv.text, .int .i64 tv.int, .float .f64 tv.real, .bool tv.flag, .slice va tv.list.length vc] : List Value)) ∧ ∀ k, v.ownBlock = some k → (Value.slice ae ne ce).ownBlock = some k ∨ W.heap.size ≤ k) u w := hg
                show (fun (v : Value) (w : World) => Fr (fun k => (Value.slice ae ne ce).ownBlock = some k) W w ∧ w.ownsRow (r + 1) 91 7 v (ne + 1) (xs ++ ([.string key, .int .i64 tv.kind, .string tv.text, .int .i64 tv.int, .float .f64 tv.real, .bool tv.flag, .slice va tv.list.length vc] : List Value)) ∧ ∀ k, v.ownBlock = some k → (Value.slice ae ne ce).ownBlock = some k ∨ W.heap.size ≤ k) u w'
                dsimp only at hg ⊢
                replace hE : exB _ _ i 9 = false := hE
                replace hne : 9 ≠ i := hne
                unfold flR at hr
                split at hr
                all_goals first
                  | exact absurd rfl hne
                  | exact absurd (hE.symm.trans (by decide +kernel : exB _ _ _ _ = true)) (by decide)
                  | (subst hr; exact hg)
                  | (fail)
              · exact hg
              · exact hg
              · replace hg : (fun (v : Value) (w : World) => ∃ (v1 : Value) (w1 : World), w = w1.setCell ⟨r, 0, none⟩ v1 ∧ Fr (fun k => (Value.slice ae ne ce).ownBlock = some k) W w1 ∧ w1.ownsRow (r + 1) 91 7 v1 (ne + 1) (xs ++ ([.string key, .int .i64 tv.kind, .string tv.text, .int .i64 tv.int, .float .f64 tv.real, .bool tv.flag, .slice va tv.list.length vc] : List Value)) ∧ ∀ k, v1.ownBlock = some k → (Value.slice ae ne ce).ownBlock = some k ∨ W.heap.size ≤ k) u w := hg
                show (fun (v : Value) (w : World) => ∃ (v1 : Value) (w1 : World), w = w1.setCell ⟨r, 0, none⟩ v1 ∧ Fr (fun k => (Value.slice ae ne ce).ownBlock = some k) W w1 ∧ w1.ownsRow (r + 1) 91 7 v1 (ne + 1) (xs ++ ([.string key, .int .i64 tv.kind, .string tv.text, .int .i64 tv.int, .float .f64 tv.real, .bool tv.flag, .slice va tv.list.length vc] : List Value)) ∧ ∀ k, v1.ownBlock = some k → (Value.slice ae ne ce).ownBlock = some k ∨ W.heap.size ≤ k) u w'
                dsimp only at hg ⊢
                replace hE : exB _ _ i 12 = false := hE
                replace hne : 12 ≠ i := hne
                unfold flR at hr
                split at hr
                all_goals first
                  | exact absurd rfl hne
                  | exact absurd (hE.symm.trans (by decide +kernel : exB _ _ _ _ = true)) (by decide)
                  | (subst hr; exact hg)
                  | (fail)
              · trivial
            · intro i w w' hF hI hr
              unfold flR at hr
              split at hr
              · exact hI.trans (hr.mono hI.size)
              · exact absurd hF (by decide)
              · exact absurd hF (by decide)
              · subst hr; exact hI
            · refine ⟨?_, ?_, ?_, ?_, ?_, ?_, ?_, ?_, ?_, ?_, ?_, ?_, ?_, trivial⟩
              · refine VC.plain rfl fun a wx hf => ?_
                have s0 := hf.old 0 (by rfl)
                have q0 := evalQ s0
                exact gives_value (by simp [go_sem, q0]) ⟨hf.c, rfl, rfl⟩
              · refine VC.plain rfl fun a wx hf => ?_
                have s0 := hf.old 0 (by rfl)
                have q0 := evalQ s0
                exact gives_value (by simp [go_sem, q0]) ⟨hf.c, rfl, rfl⟩
              · refine VC.plain rfl fun a wx hf => ?_
                obtain ⟨v56, g56, s56⟩ := hf.got 1 (by kernel_rfl) (by intro j hj; simp [eats] at hj) rfl rfl
                replace s56 := s56.trans (show v56 = P0 r from g56)
                clear g56
                have q56 := evalQ s56
                exact gives_value (by simp [go_sem, q56]) ⟨hf.c, rfl, rfl⟩
              · refine VC.plain rfl fun a wx hf => ?_
                obtain ⟨v57, g57, s57⟩ := hf.got 2 (by kernel_rfl) (by intro j hj; simp [eats] at hj) rfl rfl
                replace s57 := s57.trans (show v57 = P0 r from g57)
                clear g57
                have q57 := evalQ s57
                exact gives_value (by simp [go_sem, q57]) ⟨hf.c, rfl, rfl⟩
              · refine VC.plain rfl fun a wx hf => ?_
                obtain ⟨v58, g58, s58⟩ := hf.got 3 (by kernel_rfl) (by intro j hj; simp [eats] at hj) rfl rfl
                replace s58 := s58.trans (show v58 = P0 r from g58)
                clear g58
                have q58 := evalQ s58
                have hI := hf.start (by kernel_rfl)
                exact gives_value (by simp [go_sem, q58, hI.cell (p := ⟨r, 0, none⟩) hrl, hc0]) ⟨hf.c, rfl, rfl⟩
              · refine VC.plain rfl fun a wx hf => ?_
                have s8 := hf.old 8 (by rfl)
                have q8 := evalQ s8
                exact gives_value (by simp [go_sem, q8]) ⟨hf.c, rfl, rfl⟩
              · refine VC.plain rfl fun a wx hf => ?_
                have s5 := hf.old 5 (by rfl)
                have q5 := evalQ s5
                exact gives_load_mid rfl s5 (fun j u hj => hf.c.cell (hbx j u hj) hbo) Try.underlying44 rfl infoVal ⟨hf.c, rfl, rfl⟩
              · refine VC.plain rfl fun a wx hf => ?_
                obtain ⟨v60, g60, s60⟩ := hf.got 5 (by kernel_rfl) (by intro j hj; simp [eats] at hj) rfl rfl
                replace s60 := s60.trans (show v60 = .string key from g60)
                clear g60
                have q60 := evalQ s60
                obtain ⟨v61, g61, s61⟩ := hf.got 6 (by kernel_rfl) (by intro j hj; simp [eats] at hj) rfl rfl
                replace s61 := s61.trans (show v61 = .agg #[.int .i64 tv.kind, .string tv.text, .int .i64 tv.int, .float .f64 tv.real, .bool tv.flag, .slice va tv.list.length vc] from g61)
                clear g61
                have q61 := evalQ s61
                exact gives_value (by simp [go_sem, q60, q61, Try.underlying91]) ⟨hf.c, rfl, rfl⟩
              · refine VC.plain rfl fun a wx hf => ?_
                obtain ⟨v62, g62, s62⟩ := hf.got 7 (by kernel_rfl) (by intro j hj; simp [eats] at hj) rfl rfl
                replace s62 := s62.trans (show v62 = .agg #[.string key, .int .i64 tv.kind, .string tv.text, .int .i64 tv.int, .float .f64 tv.real, .bool tv.flag, .slice va tv.list.length vc] from g62)
                clear g62
                have q62 := evalQ s62
                exact gives_value (u := .slice (some ⟨wx.heap.size, 0, none⟩) 1 1) (w' := wx.alloc (.cells #[.string key, .int .i64 tv.kind, .string tv.text, .int .i64 tv.int, .float .f64 tv.real, .bool tv.flag, .slice va tv.list.length vc] 91)) (by simp [go_sem, q62, Try.underlying68]) ⟨hf.c.alloc _, (Below.refl _ _).alloc (Nat.le_refl _) _, wx.heap.size, rfl, (MapKept.heap_alloc wx _).1⟩
              · refine VC.plain rfl fun a wx hf => ?_
                obtain ⟨v59, g59, s59⟩ := hf.got 4 (by kernel_rfl) (by intro j hj; simp [eats] at hj) rfl rfl
                replace s59 := s59.trans (show v59 = .slice ae ne ce from g59)
                clear g59
                have q59 := evalQ s59
                obtain ⟨v63, g63, s63⟩ := hf.got 8 (by kernel_rfl) (by intro j hj; simp [eats] at hj; omega) rfl rfl
                have q63 := evalQ s63
                replace g63 : (fun (v : Value) (w : World) => ∃ b, v = .slice (some ⟨b, 0, none⟩) 1 1 ∧ w.heap[b]? = some (.cells #[.string key, .int .i64 tv.kind, .string tv.text, .int .i64 tv.int, .float .f64 tv.real, .bool tv.flag, .slice va tv.list.length vc] 91 (0, 0))) v63 wx := g63
                dsimp only at g63
                have hI := hf.start (by kernel_rfl)
                obtain ⟨b, rfl, hb⟩ := g63
                have hown1 : wx.ownsRow (r + 1) 91 7 (.slice ae ne ce) ne xs := owns_fr hrow (Fr.of_below hI) (fun k hk hle => by have := (owns_block hrow k hk).2; omega)
                refine gives_append rfl eEntry s59 hown1 s63 (reads_block hb rfl) (fun h => by cases h) (by simp [Value.oneCell']) (by omega) (by have := hI.size; omega) (fun v' w' h1 h2 h3 => ?_)
                have hfr : Fr (fun k => (Value.slice ae ne ce).ownBlock = some k) W w' := Fr.trans ((Fr.of_below hI).mono (fun j hj hle => absurd hle (by omega))) h2
                refine ⟨hfr.mono (fun i _ h => Or.inr h), trivial, hfr, h1, fun k hk => ?_⟩
                rcases h3 k hk with h | h
                · exact Or.inl h
                · exact Or.inr (Nat.le_trans hI.size h)
              · refine VC.plain rfl fun a wx hf => ?_
                obtain ⟨v55, g55, s55⟩ := hf.got 0 (by kernel_rfl) (by intro j hj; simp [eats] at hj) rfl rfl
                replace s55 := s55.trans (show v55 = P0 r from g55)
                clear g55
                have q55 := evalQ s55
                exact gives_value (by simp [go_sem, q55]) ⟨hf.c, rfl, rfl⟩
              · refine VC.plain rfl fun a wx hf => ?_
                obtain ⟨v65, g65, s65⟩ := hf.got 10 (by kernel_rfl) (by intro j hj; simp [eats] at hj) rfl rfl
                replace s65 := s65.trans (show v65 = P0 r from g65)
                clear g65
                have q65 := evalQ s65
                exact gives_value (by simp [go_sem, q65]) ⟨hf.c, rfl, rfl⟩
              · refine VC.plain rfl fun a wx hf => ?_
                obtain ⟨v66, g66, s66⟩ := hf.got 11 (by kernel_rfl) (by intro j hj; simp [eats] at hj) rfl rfl
                replace s66 := s66.trans (show v66 = P0 r from g66)
                clear g66
                have q66 := evalQ s66
                obtain ⟨v64, g64, s64⟩ := hf.got 9 (by kernel_rfl) (by intro j hj; simp [eats] at hj; omega) rfl rfl
                have q64 := evalQ s64
                replace g64 : (fun (v : Value) (w : World) => Fr (fun k => (Value.slice ae ne ce).ownBlock = some k) W w ∧ w.ownsRow (r + 1) 91 7 v (ne + 1) (xs ++ ([.string key, .int .i64 tv.kind, .string tv.text, .int .i64 tv.int, .float .f64 tv.real, .bool tv.flag, .slice va tv.list.length vc] : List Value)) ∧ ∀ k, v.ownBlock = some k → (Value.slice ae ne ce).ownBlock = some k ∨ W.heap.size ≤ k) v64 wx := g64
                dsimp only at g64
                obtain ⟨h1, h2, h3⟩ := g64
                obtain ⟨a31, c31, rfl⟩ := (Reads.of_owns h2).shape
                exact gives_skip (w' := wx.setCell ⟨r, 0, none⟩ _) (by simp [go_sem, q64, q66, h1.cell (p := ⟨r, 0, none⟩) hc0 hro, (hblk.fr h1 hro).frz 0 none]) ⟨Fr.setCell (S := fun k => k = r ∨ (Value.slice ae ne ce).ownBlock = some k) hf.c (fun _ => Or.inl rfl) _, trivial, _, wx, rfl, h1, h2, h3⟩
            · intro vs w5 hb hG
              obtain ⟨v1, w6, e, g1, g2, g3⟩ := hG 12 (by decide) (by decide)
              clear hG
              subst e
              have g1' := g1.mono (T := fun k => (Value.slice ae E.length ce).ownBlock = some k) (fun j _ e => by rw [← hnee.out]; exact e)
              rw [hxs.out, hnee.out] at g2
              have hel2 := f1.out.snoc (cs := cells6 tv.kind tv.text tv.int tv.real tv.flag va tv.list.length vc) (k := key) (v := tv) hv
              obtain ⟨k1, k2⟩ := h4.out.setE g1' hel2 (by simpa [cells6] using g2) (fun k hk => by rw [← hnee.out]; exact g3 k hk)
              have hw5 := hw4.out.trans k2
              obtain ⟨a8, c8, rfl⟩ := (Reads.of_owns g2).shape
              have m0 := k1.c0
              have m3 := k1.c3
              have hlen : (E ++ [(key, tv)]).length = ne + 1 := by rw [hnee.out]; simp
              generalize w6.setCell ⟨r, 0, none⟩ (Value.slice a8 (E.length + 1) c8) = w8 at *
              simp only [← hnee.out] at m0 m3
              replace k1 := Lib.hid k1
              replace k2 := Lib.hid k2
              replace hw5 := Lib.hid hw5
              replace hlen := Lib.hid hlen
              clear g1 g1' g2 g3 hc0 hro hbo hbx hrow hel2
              simp only [putFrom, Act.put, List.setIfInBounds_toArray, List.set_cons_zero, List.set_cons_succ]
              have hput' : ({ s with ts := cutT s.ts t } : NS).put key tv = { s with ts := cutT s.ts t, es := if s.most < ((ne + 1 : Nat) : Int) then (E ++ [(key, tv)]).tail else E ++ [(key, tv)] } := by
                rw [NS.put]
                simp only [hput.out, hlen.out]
              replace hput' := Lib.hid hput'
              by_cases hgt : s.most < ((ne + 1 : Nat) : Int)
              · have e1 : decide (s.most < (ne : Int) + 1) = true := by simp; omega
                have hpt : s.fill t tv = { s with ts := cutT s.ts t, es := (E ++ [(key, tv)]).eraseIdx 0 } := by rw [hf2.out, hput'.out, if_pos hgt, List.eraseIdx_zero]
                replace hpt := Lib.hid hpt
                go_wp2_with fail
                go_quiet (fail)
                have k5 := k1.out.below (Below.drewN (m := nq) (Below.refl _ _))
                have hw6 := hw5.out.trans (Went.of_below (Below.drewN (m := nq) (Below.refl _ _)))
                replace k5 := Lib.hid k5
                replace hw6 := Lib.hid hw6
                go_wp2_with fail
                refine (ref_without k5.out 0 (by simp) (by have := hlen.out; have := hnee.out; show (E ++ [(key, tv)]).length < _; omega)).mono ?_
                rintro e w9 ⟨sE9, rfl, h9, hw9, hsz9, _⟩
                have hwf := (Went.of_below hbb.out).trans (hw6.out.trans hw9)
                replace h9 := Lib.hid h9
                replace hwf := Lib.hid hwf
                clear hw9
                go_wp2
                go_ret
                exact ⟨by rw [hf1.out]; rfl, sE9, sT4, by rw [hpt.out]; exact h9.out, hwf.out, hwf.out.1.size⟩
              · have e1 : decide (s.most < (ne : Int) + 1) = false := by simp; omega
                have hpt : s.fill t tv = { s with ts := cutT s.ts t, es := E ++ [(key, tv)] } := by rw [hf2.out, hput'.out, if_neg hgt]
                replace hpt := Lib.hid hpt
                go_wp2_with fail
                go_quiet (fail)
                have k5 := k1.out.below (Below.drewN (m := nq) (Below.refl _ _))
                have hwf := (Went.of_below hbb.out).trans (hw5.out.trans (Went.of_below (Below.drewN (m := nq) (Below.refl _ _))))
                replace k5 := Lib.hid k5
                replace hwf := Lib.hid hwf
                go_wp2
                go_ret
                exact ⟨by rw [hf1.out]; rfl, _, sT4, by rw [hpt.out]; exact k5.out, hwf.out, hwf.out.1.size⟩
end Go.Proofs.Ytlddjcfbapdjnaa
