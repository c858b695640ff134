/- ItemFields: its walk. -/
import Derived.Test.YteoalcmhdoopnaaDoorItFldB
import Derived.Test.YteoalcmhdoopnaaDoorRely2
namespace Go.Proofs.YteoalcmhdoopnaaDoor
open Go.RowKit

def pbR (pb : Nat) (i : Nat) (w w' : World) : Prop := match i with
  | 13 => Below w.heap.size w w'
  | 18 => Fr (fun q => q = pb) w w'
  | _ => w' = w
theorem frCells (w : World) (b : Nat) (vs : List Value) : Fr (fun q => q = b) w (w.setCells b 0 vs) := Fr.setCells (S := fun q => q = b) (fun _ => rfl) vs 0 w (Fr.refl _ w)
namespace R2
set_option maxRecDepth 100000 in
set_option maxHeartbeats 12800000 in
theorem fieldsL_any (a : Option Addr) (n cap : Nat) (l : List Fld) (w : World) (hr : RF w a n cap l) (hN : Nums w) :
    Calls Tryd.prog 5 #[.slice a n cap] w fun e w' => e = .returned (.bool true) ∧ Below w.heap.size w w' := by
  have hl := hr.len
  have hmm := @run_makeMap Tryd.prog
  replace hl := Lib.hid hl
  replace hr := Lib.hid hr
  replace hN := Lib.hid hN
  go_enter Tryd.func5, Tryd.ntmps5
  go_wp2_with fail
  refine (alive09_any w hN.out).mono ?_
  rintro e w1 ⟨rfl, hb1⟩
  by_cases h30 : 30 < n
  · have h30' : (30 : Int) < n := by omega
    clear hmm
    go_wp2
    go_ret
    exact ⟨rfl, hb1⟩
  have h30' : ¬ (30 : Int) < n := by omega
  have hst := FS.start w1 _ rfl
  have hr1 := hr.out.below hb1
  have hsw : w.heap.size ≤ w1.heap.size := hb1.size
  replace hst := Lib.hid hst
  replace hr1 := Lib.hid hr1
  replace hb1 := Lib.hid hb1
  go_upto_region 7 with fail
  obtain ⟨W, hW⟩ : ∃ W, W = ((w1.alloc (.cells #[.int .i64 0, .string ⟨#[]⟩, .slice none 0 0] 24)).alloc (.cells #[.int .i64 0, .string ⟨#[]⟩, .slice none 0 0] 24)).alloc (.map #[] 0) := ⟨_, rfl⟩
  rw [← hW]
  replace hst := hst.out
  rw [← hW] at hst
  replace hst := Lib.hid hst
  replace hW := Lib.hid hW
  clear hr hN hmm
  go_wp2_with fail
  go_loopw [24] (fun i wr => ∃ j : Nat, j ≤ n ∧ i = .int .i64 j ∧ (∀ f ∈ l.take j, f.1.size ≤ 500 ∧ f.2.size ≤ 4000) ∧ FS w1 wr (putAll (l.take j)) [] (putAll (l.take j)) ∧ (putAll (l.take j)).length ≤ j) (fun i _ => n - (intOf i).toNat)
  case atStart => exact ⟨0, Nat.zero_le _, rfl, by simp, by simpa [putAll] using hst.out, by simp [putAll]⟩
  case round =>
    obtain ⟨j, hj, rfl, htk, hS, hlen⟩ := hrel
    replace htk := Lib.hid htk
    replace hlen := Lib.hid hlen
    by_cases hlt : j < n
    · have hrw := hr1.out.below hS.bel
      obtain ⟨b, o, f, hf, rfl, d0, d1⟩ := hrw.at hlt
      clear hrw
      have hfin : Below w.heap.size w wr := hb1.out.trans (hS.bel.mono hsw)
      have hal2 := hfin.alloc hfin.size (.cells #[.string f.1, .string f.2] 30)
      replace hal2 := Lib.hid hal2
      replace hf := Lib.hid hf
      replace hfin := Lib.hid hfin
      by_cases e1 : 500 < f.1.size
      · have e1' : (500 : Int) < f.1.size := by omega
        clear hS
        go_wp2
        go_ret
        exact ⟨rfl, hal2.out⟩
      have e1' : ¬ (500 : Int) < f.1.size := by omega
      by_cases e2 : 4000 < f.2.size
      · have e2' : (4000 : Int) < f.2.size := by omega
        clear hS
        go_wp2
        go_ret
        exact ⟨rfl, hal2.out⟩
      have e2' : ¬ (4000 : Int) < f.2.size := by omega
      clear hal2
      obtain ⟨W4, hW4⟩ : ∃ W4, W4 = wr.alloc (.cells #[.string f.1, .string f.2] 30) := ⟨_, rfl⟩
      have hb4 : Below wr.heap.size wr W4 := by rw [hW4]; exact (Below.refl _ _).alloc (Nat.le_refl _) _
      have q0 : W4.cell? ⟨wr.heap.size, 0, none⟩ = some (.string f.1) := by rw [hW4, World.cell?_alloc_new]; rfl
      have q1 : W4.cell? ⟨wr.heap.size, 1, none⟩ = some (.string f.2) := by rw [hW4, World.cell?_alloc_new]; rfl
      have hq : w1.heap.size + 3 ≤ wr.heap.size := hS.sz
      have hS4 := hS.below hb4
      obtain ⟨aa, na, ca, g0, g1, g2, g3, g4⟩ := hS4.a.ex
      have d0' := bcell hb4 d0
      have d1' := bcell hb4 d1
      have hnl := g3.len
      replace hS4 := Lib.hid hS4
      replace hW4 := Lib.hid hW4
      replace g3 := Lib.hid g3
      replace g4 := Lib.hid g4
      replace hnl := Lib.hid hnl
      clear hS
      go_upto_region 10 with fail
      rw [← hW4.out]
      go_wp2_with fail
      refine (iput_in (kindF (putAll (l.take j))) ⟨#[]⟩ aa na ca (putAll (l.take j)) f.1 f.2 W4 (kindF_ne _) g3.out (srt_putAll _) (by have := hnl.out; have := hlen.out; omega) ⟨by show f.1.size ≤ 512; omega, by show f.2.size ≤ 4096; omega⟩ (Or.inr (by have := hnl.out; have := hlen.out; omega))).mono ?_
      rintro e w5 ⟨a5, n5, c5, rfl, hown, hb5⟩
      have hs4 : wr.heap.size ≤ W4.heap.size := hb4.size
      have hS5 := hS4.out.below hb5
      obtain ⟨_, _, _, k0, k1, k2, _, _⟩ := hS5.a.ex
      have kz := hS5.a.blk
      have kz0 := kz.frz 0 none
      have kz1 := kz.frz 1 none
      have kz2 := kz.frz 2 none
      replace q0 := bcell hb5 q0
      replace q1 := bcell hb5 q1
      obtain ⟨W6, hW6⟩ : ∃ W6, W6 = ((w5.setCell ⟨w1.heap.size, 0, none⟩ (.int .i64 2)).setCell ⟨w1.heap.size, 1, none⟩ (.string ⟨#[]⟩)).setCell ⟨w1.heap.size, 2, none⟩ (.slice a5 n5 c5) := ⟨_, rfl⟩
      have hbx := box3 k0 k1 k2 kz (.int .i64 2) (.string ⟨#[]⟩) (.slice a5 n5 c5)
      rw [← hW6] at hbx
      obtain ⟨k0', k1', k2', _, hfx⟩ := hbx
      have hS6 := hS5.seta (RF.of_owns hown) putF_ne (fun ad he _ => by have h1 := owns_far hown ad he; omega) hW6
      obtain ⟨om, hput0, hS7⟩ := hS6.put (srt_putAll _) f.1 f.2
      have hput : (Instr.mapUpdate 39 (.map (some (w1.heap.size + 1 + 1))) (.string f.1) (.string f.2)).run Tryd.prog W6 = .ok () (setB W6 (w1.heap.size + 2) om) := hput0
      replace q0 := hfx.cell q0 (show ¬ (wr.heap.size = w1.heap.size) by omega)
      replace q1 := hfx.cell q1 (show ¬ (wr.heap.size = w1.heap.size) by omega)
      replace hS7 := Lib.hid hS7
      replace hW6 := Lib.hid hW6
      replace hown := Lib.hid hown
      clear hput0 hS6 hS5 hfx hb5 d0 d1 d0' d1' g0 g1 g2 hb4
      go_upto_region 13 with fail
      rw [← hW6.out]
      go_wp2
      go_roundw
      case rel =>
        refine ⟨j + 1, by omega, by go_num, take_all htk.out hf.out ⟨by omega, by omega⟩, by rw [putAll_succ hf.out]; exact hS7.out, ?_⟩
        rw [putAll_succ hf.out]
        have := put_le (srt_putAll (l.take j)) f.1 f.2
        have := hlen.out
        omega
      case measure => simp [intOf]; omega
    · have hjn : j = n := by omega
      subst hjn
      obtain ⟨F, hF⟩ : ∃ F, F = putAll l := ⟨_, rfl⟩
      have htl : l.take j = l := List.take_of_length_le (by have := hl.out; omega)
      rw [htl, ← hF] at hS hlen
      rw [htl] at htk
      have hsF : Srt F := by rw [hF]; exact srt_putAll l
      have hlF := hlen.out
      have hfF : ∀ f ∈ F, fineF f := by
        rw [hF]
        exact fine_putAll (fun f hf => by have := htk.out f hf; exact ⟨by omega, by omega⟩)
      replace hsF := Lib.hid hsF
      replace hfF := Lib.hid hfF
      replace hF := Lib.hid hF
      replace hS := Lib.hid hS
      clear hst hW hlt
      go_wp2_with fail
      go_loopw [8] (fun u w2 => ∃ i : Nat, i ≤ j ∧ u = .int .i64 ((i : Int) - 1) ∧ FS w1 w2 F (putBack F (l.drop i)) F) (fun u _ => ((intOf u) + 1).toNat)
      case atStart => exact ⟨j, Nat.le_refl _, by go_num, by rw [List.drop_eq_nil_of_le (by have := hl.out; omega)]; exact hS.out⟩
      case round =>
        obtain ⟨i, hi, rfl, hS2⟩ := hrel
        cases i with
        | zero =>
          have hFB : putBack F (l.drop 0) = F := by rw [List.drop_zero, hF.out]; exact putBack_all l
          rw [hFB] at hS2
          rw [show (((0 : Nat) : Int) - 1) = -1 by omega]
          obtain ⟨aa, na, ca, g0, g1, g2, g3, g4⟩ := hS2.a.ex
          obtain ⟨ab, nb, cb, k0, k1, k2, k3, k4⟩ := hS2.b.ex
          have hna := g3.len
          have hnb := k3.len
          have hna30 : na ≤ 30 := by omega
          have hnb30 : nb ≤ 30 := by omega
          have hF0 : 0 < j → F ≠ [] := fun h => by
            intro e
            have h1 : l ≠ [] := fun h2 => by have := hl.out; rw [h2] at this; simp at this; omega
            obtain ⟨x, l', hx⟩ := List.exists_cons_of_ne_nil h1
            have := has_putAll l x.1
            rw [← hF.out, e, getF_nil, hx] at this
            simp at this
          replace hF0 := Lib.hid hF0
          replace hS2 := Lib.hid hS2
          replace hna := Lib.hid hna
          replace hnb := Lib.hid hnb
          replace g3 := Lib.hid g3
          replace k3 := Lib.hid k3
          clear g4 k4 hFB
          go_upto_region 19 with fail
          go_wp2_with fail
          refine (qp_q (isame_any (kindF F) ⟨#[]⟩ aa na ca F (kindF F) ⟨#[]⟩ ab nb cb F _ g3.out k3.out (by omega)) (same_self _ _ _)).mono ?_
          rintro e w3 ⟨rfl, hb3⟩
          have hS3 := hS2.out.below hb3
          replace g0 := bcell hb3 g0
          replace g1 := bcell hb3 g1
          replace g2 := bcell hb3 g2
          have g3 := g3.out.below hb3
          obtain ⟨lm, hlm, hlml⟩ := hS3.m.len (F.map (·.1)) (srt_names hsF.out) (fun k => names_iff hsF.out k)
          have hlmn : lm.length = na := by rw [hlml, List.length_map]; exact hna.out
          have hrun0 := fun T => run_len_map (P := Tryd.prog) hlm _ _ _ T Tryd.underlying39
          rw [hlmn] at hrun0
          have hrun : ∀ T, (Builtin.len_ #[39] T #[.map (some (w1.heap.size + 1 + 1))]).run Tryd.prog w3 = .ok (.int .i64 na) w3 := hrun0
          replace hS3 := Lib.hid hS3
          replace g3 := Lib.hid g3
          clear hlm hlml hlmn hrun0 k0 k1 k2 k3 hb3
          by_cases hj0 : 0 < j
          · have hj0' : (0 : Int) < j := by omega
            go_wp2_with fail
            refine (qp_q (right_any (kindF F) ⟨#[]⟩ aa na ca F _ g3.out (by omega)) (show true = true ↔ RightP (kindF F) ⟨#[]⟩ F from ⟨fun _ => Or.inr ⟨kindF_two (hF0.out hj0), rfl, List.length_pos_iff.2 (hF0.out hj0), by have := hna.out; omega, hfF.out, hsF.out⟩, fun _ => rfl⟩)).mono ?_
            rintro e w4 ⟨rfl, hb4⟩
            have hS4 := hS3.out.below hb4
            replace g0 := bcell hb4 g0
            replace g1 := bcell hb4 g1
            replace g2 := bcell hb4 g2
            have g3 := g3.out.below hb4
            clear hb4 hrun
            have hne : w4.heap.size ≠ w1.heap.size + 2 := by have := hS4.sz; omega
            have hfin : Below w.heap.size w w4 := hb1.out.trans (hS4.bel.mono hsw)
            obtain ⟨lm2, hlm2, hlk⟩ := hS4.m
            obtain ⟨ob, hrange0, hR0⟩ := Ranging.start (P := Tryd.prog) hlm2 (t := 39) Tryd.underlying39
            have hrange : (Instr.range 39 (.map (some (w1.heap.size + 1 + 1)))).run Tryd.prog w4 = .ok (.pointer (some ⟨w4.heap.size, 0, none⟩)) (w4.alloc ob) := hrange0
            have hsz4 := hS4.sz
            replace hR0 := Lib.hid hR0
            replace hlm2 := Lib.hid hlm2
            replace hlk := Lib.hid hlk
            replace hfin := Lib.hid hfin
            replace g3 := Lib.hid g3
            clear hrange0 hS4
            go_wp2_with fail
            go_loopw [9] (fun _ wr => Below w4.heap.size w4 wr ∧ Ranging wr (w1.heap.size + 2) w4.heap.size lm2) (fun _ wr => wr.rangeLeft (w1.heap.size + 2) w4.heap.size)
            case atStart => exact ⟨(Below.refl _ _).alloc (Nat.le_refl _) _, hR0.out⟩
            case round =>
              obtain ⟨hbel, hR⟩ := hrel
              clear hrange
              rcases hR.next (P := Tryd.prog) hne with hn | ⟨⟨pk, pv⟩, W', hp, hn, hent, hR', hfr, hlt⟩
              · replace hR := Lib.hid hR
                have hend := hfin.out.trans (hbel.mono hfin.out.size)
                clear g0 g1 g2
                go_wp2
                go_ret
                exact ⟨rfl, hend⟩
              · have hal := alook_of_mem hlm2.out.nodup hp
                rw [hlk.out] at hal
                obtain ⟨t, ht, rfl⟩ : ∃ t, getF F pk = some t ∧ Value.string t = pv := by
                  cases h : getF F pk with
                  | none => rw [h] at hal; cases hal
                  | some x => rw [h] at hal; exact ⟨x, rfl, by simpa using hal⟩
                have hhas : hasF F pk = true := by rw [← hasF_getF, ht]; rfl
                have hb' : Below w4.heap.size w4 W' := hbel.trans (hfr.below hbel.size (fun i hi e => by omega))
                have c0 := bcell hb' g0
                have c1 := bcell hb' g1
                have c2 := bcell hb' g2
                have hcall := iget_any (kindF F) ⟨#[]⟩ aa na ca F pk W' (kindF_ne _) (g3.out.below hb') hsF.out (by omega)
                rw [ht, hhas] at hcall
                dsimp only [Option.getD] at hcall hn hent
                replace hcall := Lib.hid hcall
                replace hR := Lib.hid hR
                replace hR' := Lib.hid hR'
                replace ht := Lib.hid ht
                replace hhas := Lib.hid hhas
                have hw' := hb'.size
                clear hal hp hfr g0 g1 g2
                go_wp2_with fail
                refine hcall.out.mono ?_
                rintro e w5 ⟨rfl, hb5⟩
                clear c0 c1 c2 hn hent
                go_wp2_with fail
                go_roundw
                case rel => exact ⟨hb'.trans (hb5.mono hw'), hR'.out.of_block (hb5.block _ (by omega)) (hb5.block _ (by
                  obtain ⟨_, _, _, _, h2, _⟩ := hR'.out.ex
                  exact (Array.getElem?_eq_some_iff.1 h2).1))⟩
                case measure =>
                  rw [rangeLeft_of (hb5.block _ (by omega)) (hb5.block _ (by
                    obtain ⟨_, _, _, _, h2, _⟩ := hR'.out.ex
                    exact (Array.getElem?_eq_some_iff.1 h2).1))]
                  exact hlt
          · have hj0' : ¬ (0 : Int) < j := by omega
            have g3 := g3.out
            have hS4 := hS3.out
            have hne : w3.heap.size ≠ w1.heap.size + 2 := by have := hS4.sz; omega
            have hfin : Below w.heap.size w w3 := hb1.out.trans (hS4.bel.mono hsw)
            obtain ⟨lm2, hlm2, hlk⟩ := hS4.m
            obtain ⟨ob, hrange0, hR0⟩ := Ranging.start (P := Tryd.prog) hlm2 (t := 39) Tryd.underlying39
            have hrange : (Instr.range 39 (.map (some (w1.heap.size + 1 + 1)))).run Tryd.prog w3 = .ok (.pointer (some ⟨w3.heap.size, 0, none⟩)) (w3.alloc ob) := hrange0
            have hsz4 := hS4.sz
            replace hR0 := Lib.hid hR0
            replace hlm2 := Lib.hid hlm2
            replace hlk := Lib.hid hlk
            replace hfin := Lib.hid hfin
            replace g3 := Lib.hid g3
            clear hrange0 hS4
            go_wp2_with fail
            go_loopw [9] (fun _ wr => Below w3.heap.size w3 wr ∧ Ranging wr (w1.heap.size + 2) w3.heap.size lm2) (fun _ wr => wr.rangeLeft (w1.heap.size + 2) w3.heap.size)
            case atStart => exact ⟨(Below.refl _ _).alloc (Nat.le_refl _) _, hR0.out⟩
            case round =>
              obtain ⟨hbel, hR⟩ := hrel
              clear hrange
              rcases hR.next (P := Tryd.prog) hne with hn | ⟨⟨pk, pv⟩, W', hp, hn, hent, hR', hfr, hlt⟩
              · replace hR := Lib.hid hR
                have hend := hfin.out.trans (hbel.mono hfin.out.size)
                clear g0 g1 g2
                go_wp2
                go_ret
                exact ⟨rfl, hend⟩
              · have hal := alook_of_mem hlm2.out.nodup hp
                rw [hlk.out] at hal
                obtain ⟨t, ht, rfl⟩ : ∃ t, getF F pk = some t ∧ Value.string t = pv := by
                  cases h : getF F pk with
                  | none => rw [h] at hal; cases hal
                  | some x => rw [h] at hal; exact ⟨x, rfl, by simpa using hal⟩
                have hhas : hasF F pk = true := by rw [← hasF_getF, ht]; rfl
                have hb' : Below w3.heap.size w3 W' := hbel.trans (hfr.below hbel.size (fun i hi e => by omega))
                have c0 := bcell hb' g0
                have c1 := bcell hb' g1
                have c2 := bcell hb' g2
                have hcall := iget_any (kindF F) ⟨#[]⟩ aa na ca F pk W' (kindF_ne _) (g3.out.below hb') hsF.out (by omega)
                rw [ht, hhas] at hcall
                dsimp only [Option.getD] at hcall hn hent
                replace hcall := Lib.hid hcall
                replace hR := Lib.hid hR
                replace hR' := Lib.hid hR'
                replace ht := Lib.hid ht
                replace hhas := Lib.hid hhas
                have hw' := hb'.size
                clear hal hp hfr g0 g1 g2
                go_wp2_with fail
                refine hcall.out.mono ?_
                rintro e w5 ⟨rfl, hb5⟩
                clear c0 c1 c2 hn hent
                go_wp2_with fail
                go_roundw
                case rel => exact ⟨hb'.trans (hb5.mono hw'), hR'.out.of_block (hb5.block _ (by omega)) (hb5.block _ (by
                  obtain ⟨_, _, _, _, h2, _⟩ := hR'.out.ex
                  exact (Array.getElem?_eq_some_iff.1 h2).1))⟩
                case measure =>
                  rw [rangeLeft_of (hb5.block _ (by omega)) (hb5.block _ (by
                    obtain ⟨_, _, _, _, h2, _⟩ := hR'.out.ex
                    exact (Array.getElem?_eq_some_iff.1 h2).1))]
                  exact hlt
        | succ i =>
          rw [show (((i + 1 : Nat) : Int) - 1) = (i : Int) by omega]
          have hrw := hr1.out.below hS2.bel
          obtain ⟨b, o, f, hf, rfl, d0, d1⟩ := hrw.at (show i < j by omega)
          obtain ⟨aa, na, ca, g0, g1, g2, g3, g4⟩ := hS2.b.ex
          have hi0 : (0 : Int) ≤ i := by omega
          have hij : (i : Int) < j := by omega
          obtain ⟨B1, hB1⟩ : ∃ B1, B1 = putBack F (l.drop (i + 1)) := ⟨_, rfl⟩
          have hsB : Srt B1 := by rw [hB1]; exact srt_putBack _ _
          have hlB : B1.length ≤ 30 := by
            have := putBack_len F (l.drop (i + 1))
            have h2 := hl.out
            rw [List.length_drop, h2, ← hB1] at this
            omega
          obtain ⟨T, hT⟩ : ∃ T, T = (getF F f.1).getD ⟨#[]⟩ := ⟨_, rfl⟩
          have hT4 : T.size ≤ 4096 := by
            rw [hT]
            cases hg : getF F f.1 with
            | none => decide
            | some t => exact (hfF.out _ ((getF_iff hsF.out).1 hg)).2
          have hf5 := htk.out f (List.mem_of_getElem? hf)
          obtain ⟨W, hWr⟩ : ∃ W, W = wr := ⟨_, rfl⟩
          rw [← hB1] at hS2 g0 g3
          rw [← hWr] at hS2 d0 d1 g0 g1 g2 g3
          have hsz := hS2.sz
          have hlook : ∀ W', Below W.heap.size W W' → (Instr.lookup 39 (.map (some (w1.heap.size + 1 + 1))) (.string f.1) false).run Tryd.prog W' = .ok (.string T) W' := fun W' h => by
            rw [hT]; exact (hS2.m.below h (by omega)).look (P := Tryd.prog) Tryd.underlying39 Tryd.underlying9 (fun W => by kernel_rfl) f.1
          have hrng : W.rangeAt (w1.heap.size + 1) 0 [.int .i64 (kindF B1), .string ⟨#[]⟩, .slice aa na ca] := fun q u hq => by
            rcases q with _ | _ | _ | q
            · simp at hq; rw [← hq]; exact g0
            · simp at hq; rw [← hq]; exact g1
            · simp at hq; rw [← hq]; exact g2
            · simp at hq
          have hblk := hS2.b.blk
          have hcall : ∀ W', Below W.heap.size W W' → Calls Tryd.prog 18 #[.agg #[.int .i64 (kindF B1), .string ⟨#[]⟩, .slice aa na ca], .string f.1, .string T] W' fun e w' => ∃ v, e = .returned v ∧ True ∧ pbR (w1.heap.size + 1) 13 W' w' ∧ ∃ (a' : Option Addr) (n' c' : Nat) (bo : Bool) (W5 : World), v = .tuple #[.agg #[.int .i64 2, .string ⟨#[]⟩, .slice a' n' c'], .bool bo, .int .i64 0] ∧ W5.ownsRow (w1.heap.size + 3) 30 2 (.slice a' n' c') n' (flds (putF B1 f.1 T)) ∧ Below W.heap.size W W5 ∧ Fr (fun q => q = w1.heap.size + 1) W5 w' := fun W' h => by
            have hlen3 := g3.len
            refine (iput_in (kindF B1) ⟨#[]⟩ aa na ca B1 f.1 T W' (kindF_ne _) (g3.below h) hsB (by omega) ⟨by show f.1.size ≤ 512; omega, hT4⟩ (Or.inr (by omega))).mono ?_
            rintro e w5 ⟨a', n', c', rfl, hown, hb5⟩
            have hs' := h.size
            exact ⟨_, rfl, trivial, hb5, a', n', c', _, w5, rfl, ⟨hown.1, hown.2.imp id (fun ⟨g, cp, cu, h1, h2, h3⟩ => ⟨g, cp, cu, h1, by omega, h3⟩)⟩, h.trans (hb5.mono h.size), Fr.refl _ _⟩
          replace hT := Lib.hid hT
          replace hB1 := Lib.hid hB1
          replace hS2 := Lib.hid hS2
          replace hf := Lib.hid hf
          replace g3 := Lib.hid g3
          replace g4 := Lib.hid g4
          replace hlook := Lib.hid hlook
          replace hrng := Lib.hid hrng
          replace hblk := Lib.hid hblk
          replace hcall := Lib.hid hcall
          clear hrw g0 g1 g2
          rw [hWr] at d0
          go_upto_region 18 with fail
          rw [← hWr] at d0
          rw [← hWr]
          replace hlook := hlook.out
          replace hrng := hrng.out
          replace hblk := hblk.out
          replace hcall := hcall.out
          clear hWr
          refine wp_region_rely (l := [_, _, _, _, _, _, _, _, _, _, _, _, _, _, _, _, _, _, _]) (fun _ => True) (Below W.heap.size W) (pbR (w1.heap.size + 1)) (fun kG_ => ([fun v _ => v = .agg #[.int .i64 (kindF B1), .string ⟨#[]⟩, .slice aa na ca], fun v _ => v = .slice (some ⟨b, o, none⟩) j cap, fun v _ => v = .int .i64 i, fun v _ => v = .pointer (some ⟨b, o + i * 2, none⟩), fun v _ => v = .pointer (some ⟨b, o + i * 2, none⟩), fun v _ => v = .string f.1, fun v _ => v = .map (some (w1.heap.size + 1 + 1)), fun v _ => v = .slice (some ⟨b, o, none⟩) j cap, fun v _ => v = .int .i64 i, fun v _ => v = .pointer (some ⟨b, o + i * 2, none⟩), fun v _ => v = .pointer (some ⟨b, o + i * 2, none⟩), fun v _ => v = .string f.1, fun v _ => v = .string T, fun v w => ∃ (a' : Option Addr) (n' c' : Nat) (bo : Bool) (W5 : World), v = .tuple #[.agg #[.int .i64 2, .string ⟨#[]⟩, .slice a' n' c'], .bool bo, .int .i64 0] ∧ W5.ownsRow (w1.heap.size + 3) 30 2 (.slice a' n' c') n' (flds (putF B1 f.1 T)) ∧ Below W.heap.size W W5 ∧ Fr (fun q => q = w1.heap.size + 1) W5 w, fun v w => ∃ (a' : Option Addr) (n' c' : Nat) (bo : Bool) (W5 : World), v = .tuple #[.agg #[.int .i64 2, .string ⟨#[]⟩, .slice a' n' c'], .bool bo, .int .i64 0] ∧ W5.ownsRow (w1.heap.size + 3) 30 2 (.slice a' n' c') n' (flds (putF B1 f.1 T)) ∧ Below W.heap.size W W5 ∧ Fr (fun q => q = w1.heap.size + 1) W5 w, fun v w => ∃ (a' : Option Addr) (n' c' : Nat) (W5 : World), v = .agg #[.int .i64 2, .string ⟨#[]⟩, .slice a' n' c'] ∧ W5.ownsRow (w1.heap.size + 3) 30 2 (.slice a' n' c') n' (flds (putF B1 f.1 T)) ∧ Below W.heap.size W W5 ∧ Fr (fun q => q = w1.heap.size + 1) W5 w, fun v w => ∃ bo : Bool, v = .bool bo, fun v _ => v = .int .i64 0, fun v w => ∃ (a' : Option Addr) (n' c' : Nat) (W5 w0 : World), w = w0.setCells (w1.heap.size + 1) 0 [.int .i64 2, .string ⟨#[]⟩, .slice a' n' c'] ∧ W5.ownsRow (w1.heap.size + 3) 30 2 (.slice a' n' c') n' (flds (putF B1 f.1 T)) ∧ Below W.heap.size W W5 ∧ Fr (fun q => q = w1.heap.size + 1) W5 w0 ∧ Below W.heap.size W w0] : List (Value → World → Prop)).getD kG_ (fun _ _ => True)) (eats []) (isIn [18]) (by kernel_rfl) (by kernel_rfl) (by kernel_rfl) trivial ((Below.refl _ _).drew) ?_ ?_ ?_ ?_
          · intro i kG_ u w w' hne hE hg hr
            rcases kG_ with _ | _ | _ | _ | _ | _ | _ | _ | _ | _ | _ | _ | _ | _ | _ | _ | _ | _ | _ | kG_
            · exact hg
            · exact hg
            · exact hg
            · exact hg
            · exact hg
            · exact hg
            · exact hg
            · exact hg
            · exact hg
            · exact hg
            · exact hg
            · exact hg
            · exact hg
            · replace hg : (fun (v : Value) (w : World) => ∃ (a' : Option Addr) (n' c' : Nat) (bo : Bool) (W5 : World), v = .tuple #[.agg #[.int .i64 2, .string ⟨#[]⟩, .slice a' n' c'], .bool bo, .int .i64 0] ∧ W5.ownsRow (w1.heap.size + 3) 30 2 (.slice a' n' c') n' (flds (putF B1 f.1 T)) ∧ Below W.heap.size W W5 ∧ Fr (fun q => q = w1.heap.size + 1) W5 w) u w := hg
              show (fun (v : Value) (w : World) => ∃ (a' : Option Addr) (n' c' : Nat) (bo : Bool) (W5 : World), v = .tuple #[.agg #[.int .i64 2, .string ⟨#[]⟩, .slice a' n' c'], .bool bo, .int .i64 0] ∧ W5.ownsRow (w1.heap.size + 3) 30 2 (.slice a' n' c') n' (flds (putF B1 f.1 T)) ∧ Below W.heap.size W W5 ∧ Fr (fun q => q = w1.heap.size + 1) W5 w) u w'
              dsimp only at hg ⊢
              replace hE : exB _ _ i 13 = false := hE
              replace hne : 13 ≠ i := hne
              unfold pbR at hr
              split at hr
              all_goals first
                | exact absurd rfl hne
                | exact absurd (hE.symm.trans (by decide +kernel : exB _ _ _ _ = true)) (by decide)
                | (subst hr; exact hg)
                | ((obtain ⟨a', n', c', bo, W5, g1, g2, g3, g4⟩ := hg; first | exact ⟨a', n', c', bo, W5, g1, g2, g3, g4.trans hr⟩ | exact ⟨a', n', c', bo, W5, g1, g2, g3, (g4.trans_new (Fr.of_below hr) (fun i hi h => absurd hi (by have := g4.size; omega)))⟩))
            · replace hg : (fun (v : Value) (w : World) => ∃ (a' : Option Addr) (n' c' : Nat) (bo : Bool) (W5 : World), v = .tuple #[.agg #[.int .i64 2, .string ⟨#[]⟩, .slice a' n' c'], .bool bo, .int .i64 0] ∧ W5.ownsRow (w1.heap.size + 3) 30 2 (.slice a' n' c') n' (flds (putF B1 f.1 T)) ∧ Below W.heap.size W W5 ∧ Fr (fun q => q = w1.heap.size + 1) W5 w) u w := hg
              show (fun (v : Value) (w : World) => ∃ (a' : Option Addr) (n' c' : Nat) (bo : Bool) (W5 : World), v = .tuple #[.agg #[.int .i64 2, .string ⟨#[]⟩, .slice a' n' c'], .bool bo, .int .i64 0] ∧ W5.ownsRow (w1.heap.size + 3) 30 2 (.slice a' n' c') n' (flds (putF B1 f.1 T)) ∧ Below W.heap.size W W5 ∧ Fr (fun q => q = w1.heap.size + 1) W5 w) u w'
              dsimp only at hg ⊢
              replace hE : exB _ _ i 14 = false := hE
              replace hne : 14 ≠ i := hne
              unfold pbR at hr
              split at hr
              all_goals first
                | exact absurd rfl hne
                | exact absurd (hE.symm.trans (by decide +kernel : exB _ _ _ _ = true)) (by decide)
                | (subst hr; exact hg)
                | ((obtain ⟨a', n', c', bo, W5, g1, g2, g3, g4⟩ := hg; first | exact ⟨a', n', c', bo, W5, g1, g2, g3, g4.trans hr⟩ | exact ⟨a', n', c', bo, W5, g1, g2, g3, (g4.trans_new (Fr.of_below hr) (fun i hi h => absurd hi (by have := g4.size; omega)))⟩))
            · replace hg : (fun (v : Value) (w : World) => ∃ (a' : Option Addr) (n' c' : Nat) (W5 : World), v = .agg #[.int .i64 2, .string ⟨#[]⟩, .slice a' n' c'] ∧ W5.ownsRow (w1.heap.size + 3) 30 2 (.slice a' n' c') n' (flds (putF B1 f.1 T)) ∧ Below W.heap.size W W5 ∧ Fr (fun q => q = w1.heap.size + 1) W5 w) u w := hg
              show (fun (v : Value) (w : World) => ∃ (a' : Option Addr) (n' c' : Nat) (W5 : World), v = .agg #[.int .i64 2, .string ⟨#[]⟩, .slice a' n' c'] ∧ W5.ownsRow (w1.heap.size + 3) 30 2 (.slice a' n' c') n' (flds (putF B1 f.1 T)) ∧ Below W.heap.size W W5 ∧ Fr (fun q => q = w1.heap.size + 1) W5 w) u w'
              dsimp only at hg ⊢
              replace hE : exB _ _ i 15 = false := hE
              replace hne : 15 ≠ i := hne
              unfold pbR at hr
              split at hr
              all_goals first
                | exact absurd rfl hne
                | exact absurd (hE.symm.trans (by decide +kernel : exB _ _ _ _ = true)) (by decide)
                | (subst hr; exact hg)
                | ((obtain ⟨a', n', c', W5, g1, g2, g3, g4⟩ := hg; first | exact ⟨a', n', c', W5, g1, g2, g3, g4.trans hr⟩ | exact ⟨a', n', c', W5, g1, g2, g3, (g4.trans_new (Fr.of_below hr) (fun i hi h => absurd hi (by have := g4.size; omega)))⟩))
            · replace hg : (fun (v : Value) (w : World) => ∃ bo : Bool, v = .bool bo) u w := hg
              show (fun (v : Value) (w : World) => ∃ bo : Bool, v = .bool bo) u w'
              dsimp only at hg ⊢
              replace hE : exB _ _ i 16 = false := hE
              replace hne : 16 ≠ i := hne
              exact hg
            · exact hg
            · replace hg : (fun (v : Value) (w : World) => ∃ (a' : Option Addr) (n' c' : Nat) (W5 w0 : World), w = w0.setCells (w1.heap.size + 1) 0 [.int .i64 2, .string ⟨#[]⟩, .slice a' n' c'] ∧ W5.ownsRow (w1.heap.size + 3) 30 2 (.slice a' n' c') n' (flds (putF B1 f.1 T)) ∧ Below W.heap.size W W5 ∧ Fr (fun q => q = w1.heap.size + 1) W5 w0 ∧ Below W.heap.size W w0) u w := hg
              show (fun (v : Value) (w : World) => ∃ (a' : Option Addr) (n' c' : Nat) (W5 w0 : World), w = w0.setCells (w1.heap.size + 1) 0 [.int .i64 2, .string ⟨#[]⟩, .slice a' n' c'] ∧ W5.ownsRow (w1.heap.size + 3) 30 2 (.slice a' n' c') n' (flds (putF B1 f.1 T)) ∧ Below W.heap.size W W5 ∧ Fr (fun q => q = w1.heap.size + 1) W5 w0 ∧ Below W.heap.size W w0) u w'
              dsimp only at hg ⊢
              replace hE : exB _ _ i 18 = false := hE
              replace hne : 18 ≠ i := hne
              unfold pbR at hr
              split at hr
              all_goals first
                | exact absurd rfl hne
                | exact absurd (hE.symm.trans (by decide +kernel : exB _ _ _ _ = true)) (by decide)
                | (subst hr; exact hg)
                | (fail)
            · trivial
          · intro i w w' hF hI hr
            unfold pbR at hr
            split at hr
            · exact hI.trans (hr.mono hI.size)
            · exact absurd hF (by decide)
            · subst hr; exact hI
          · refine ⟨?_, ?_, ?_, ?_, ?_, ?_, ?_, ?_, ?_, ?_, ?_, ?_, ?_, ?_, ?_, ?_, ?_, ?_, ?_, trivial⟩
            · refine VC.plain rfl fun a wx hf => ?_
              have s4 := hf.old 4 (by first | rfl | kernel_rfl)
              have q4 := evalQ s4
              have hI := hf.start (by kernel_rfl)
              exact gives_load_mid rfl s4 (fun j u hj => bcell hI (hrng j u hj)) Tryd.underlying24 rfl infoItem ⟨trivial, rfl, rfl⟩
            · refine VC.plain rfl fun a wx hf => ?_
              have s0 := hf.old 0 (by first | rfl | kernel_rfl)
              have q0 := evalQ s0
              exact gives_value (by simp [go_sem, q0]) ⟨hf.c, rfl, rfl⟩
            · refine VC.plain rfl fun a wx hf => ?_
              have s8 := hf.old 8 (by first | rfl | kernel_rfl)
              have q8 := evalQ s8
              exact gives_value (by simp [go_sem, q8]) ⟨hf.c, rfl, rfl⟩
            · refine VC.plain rfl fun a wx hf => ?_
              obtain ⟨v63, g63, s63⟩ := hf.got 1 (by kernel_rfl) (by intro j hj; simp [eats] at hj) rfl rfl
              replace s63 := s63.trans (show v63 = .slice (some ⟨b, o, none⟩) j cap from g63)
              clear g63
              have q63 := evalQ s63
              obtain ⟨v64, g64, s64⟩ := hf.got 2 (by kernel_rfl) (by intro j hj; simp [eats] at hj) rfl rfl
              replace s64 := s64.trans (show v64 = .int .i64 i from g64)
              clear g64
              have q64 := evalQ s64
              have hI := hf.start (by kernel_rfl)
              exact gives_value (by simp [go_sem, q63, q64, hi0, hij, Tryd.underlying22]) ⟨trivial, rfl, rfl⟩
            · refine VC.plain rfl fun a wx hf => ?_
              obtain ⟨v65, g65, s65⟩ := hf.got 3 (by kernel_rfl) (by intro j hj; simp [eats] at hj) rfl rfl
              replace s65 := s65.trans (show v65 = .pointer (some ⟨b, o + i * 2, none⟩) from g65)
              clear g65
              have q65 := evalQ s65
              exact gives_value (by simp [go_sem, q65]) ⟨hf.c, rfl, rfl⟩
            · refine VC.plain rfl fun a wx hf => ?_
              obtain ⟨v66, g66, s66⟩ := hf.got 4 (by kernel_rfl) (by intro j hj; simp [eats] at hj) rfl rfl
              replace s66 := s66.trans (show v66 = .pointer (some ⟨b, o + i * 2, none⟩) from g66)
              clear g66
              have q66 := evalQ s66
              have hI := hf.start (by kernel_rfl)
              exact gives_value (by simp [go_sem, q66, bcell hI d0]) ⟨trivial, rfl, rfl⟩
            · refine VC.plain rfl fun a wx hf => ?_
              have s5 := hf.old 5 (by first | rfl | kernel_rfl)
              have q5 := evalQ s5
              exact gives_value (by simp [go_sem, q5]) ⟨hf.c, rfl, rfl⟩
            · refine VC.plain rfl fun a wx hf => ?_
              have s0 := hf.old 0 (by first | rfl | kernel_rfl)
              have q0 := evalQ s0
              exact gives_value (by simp [go_sem, q0]) ⟨hf.c, rfl, rfl⟩
            · refine VC.plain rfl fun a wx hf => ?_
              have s8 := hf.old 8 (by first | rfl | kernel_rfl)
              have q8 := evalQ s8
              exact gives_value (by simp [go_sem, q8]) ⟨hf.c, rfl, rfl⟩
            · refine VC.plain rfl fun a wx hf => ?_
              obtain ⟨v69, g69, s69⟩ := hf.got 7 (by kernel_rfl) (by intro j hj; simp [eats] at hj) rfl rfl
              replace s69 := s69.trans (show v69 = .slice (some ⟨b, o, none⟩) j cap from g69)
              clear g69
              have q69 := evalQ s69
              obtain ⟨v70, g70, s70⟩ := hf.got 8 (by kernel_rfl) (by intro j hj; simp [eats] at hj) rfl rfl
              replace s70 := s70.trans (show v70 = .int .i64 i from g70)
              clear g70
              have q70 := evalQ s70
              have hI := hf.start (by kernel_rfl)
              exact gives_value (by simp [go_sem, q69, q70, hi0, hij, Tryd.underlying22]) ⟨trivial, rfl, rfl⟩
            · refine VC.plain rfl fun a wx hf => ?_
              obtain ⟨v71, g71, s71⟩ := hf.got 9 (by kernel_rfl) (by intro j hj; simp [eats] at hj) rfl rfl
              replace s71 := s71.trans (show v71 = .pointer (some ⟨b, o + i * 2, none⟩) from g71)
              clear g71
              have q71 := evalQ s71
              exact gives_value (by simp [go_sem, q71]) ⟨hf.c, rfl, rfl⟩
            · refine VC.plain rfl fun a wx hf => ?_
              obtain ⟨v72, g72, s72⟩ := hf.got 10 (by kernel_rfl) (by intro j hj; simp [eats] at hj) rfl rfl
              replace s72 := s72.trans (show v72 = .pointer (some ⟨b, o + i * 2, none⟩) from g72)
              clear g72
              have q72 := evalQ s72
              have hI := hf.start (by kernel_rfl)
              exact gives_value (by simp [go_sem, q72, bcell hI d0]) ⟨trivial, rfl, rfl⟩
            · refine VC.plain rfl fun a wx hf => ?_
              obtain ⟨v68, g68, s68⟩ := hf.got 6 (by kernel_rfl) (by intro j hj; simp [eats] at hj) rfl rfl
              replace s68 := s68.trans (show v68 = .map (some (w1.heap.size + 1 + 1)) from g68)
              clear g68
              have q68 := evalQ s68
              obtain ⟨v73, g73, s73⟩ := hf.got 11 (by kernel_rfl) (by intro j hj; simp [eats] at hj) rfl rfl
              replace s73 := s73.trans (show v73 = .string f.1 from g73)
              clear g73
              have q73 := evalQ s73
              have hI := hf.start (by kernel_rfl)
              exact gives_value (by simp [go_sem, q68, q73, hlook wx hI]) ⟨trivial, rfl, rfl⟩
            · refine VC.plain rfl fun a wx hf => ?_
              obtain ⟨v62, g62, s62⟩ := hf.got 0 (by kernel_rfl) (by intro j hj; simp [eats] at hj) rfl rfl
              replace s62 := s62.trans (show v62 = .agg #[.int .i64 (kindF B1), .string ⟨#[]⟩, .slice aa na ca] from g62)
              clear g62
              have q62 := evalQ s62
              obtain ⟨v67, g67, s67⟩ := hf.got 5 (by kernel_rfl) (by intro j hj; simp [eats] at hj) rfl rfl
              replace s67 := s67.trans (show v67 = .string f.1 from g67)
              clear g67
              have q67 := evalQ s67
              obtain ⟨v74, g74, s74⟩ := hf.got 12 (by kernel_rfl) (by intro j hj; simp [eats] at hj) rfl rfl
              replace s74 := s74.trans (show v74 = .string T from g74)
              clear g74
              have q74 := evalQ s74
              have hI := hf.start (by kernel_rfl)
              exact gives_call (f := 18) (args := #[.agg #[.int .i64 (kindF B1), .string ⟨#[]⟩, .slice aa na ca], .string f.1, .string T]) (by simp [go_sem, q62, q67, q74]) ((hcall wx hI).mono fun e w' he => he)
            · refine VC.plain rfl fun a wx hf => ?_
              obtain ⟨v75, g75, s75⟩ := hf.got 13 (by kernel_rfl) (by intro j hj; simp [eats] at hj) rfl rfl
              have q75 := evalQ s75
              replace g75 : (fun (v : Value) (w : World) => ∃ (a' : Option Addr) (n' c' : Nat) (bo : Bool) (W5 : World), v = .tuple #[.agg #[.int .i64 2, .string ⟨#[]⟩, .slice a' n' c'], .bool bo, .int .i64 0] ∧ W5.ownsRow (w1.heap.size + 3) 30 2 (.slice a' n' c') n' (flds (putF B1 f.1 T)) ∧ Below W.heap.size W W5 ∧ Fr (fun q => q = w1.heap.size + 1) W5 w) v75 wx := g75
              dsimp only at g75
              exact gives_value (by simp [go_sem, q75]) ⟨trivial, rfl, g75⟩
            · refine VC.plain rfl fun a wx hf => ?_
              obtain ⟨v61, g61, s61⟩ := hf.got 14 (by kernel_rfl) (by intro j hj; simp [eats] at hj) rfl rfl
              have q61 := evalQ s61
              replace g61 : (fun (v : Value) (w : World) => ∃ (a' : Option Addr) (n' c' : Nat) (bo : Bool) (W5 : World), v = .tuple #[.agg #[.int .i64 2, .string ⟨#[]⟩, .slice a' n' c'], .bool bo, .int .i64 0] ∧ W5.ownsRow (w1.heap.size + 3) 30 2 (.slice a' n' c') n' (flds (putF B1 f.1 T)) ∧ Below W.heap.size W W5 ∧ Fr (fun q => q = w1.heap.size + 1) W5 w) v61 wx := g61
              dsimp only at g61
              obtain ⟨a', n', c', bo, W5, rfl, hrest⟩ := g61
              exact gives_value (by simp [go_sem, q61]) ⟨trivial, rfl, a', n', c', W5, rfl, hrest⟩
            · refine VC.plain rfl fun a wx hf => ?_
              obtain ⟨v61, g61, s61⟩ := hf.got 14 (by kernel_rfl) (by intro j hj; simp [eats] at hj) rfl rfl
              have q61 := evalQ s61
              replace g61 : (fun (v : Value) (w : World) => ∃ (a' : Option Addr) (n' c' : Nat) (bo : Bool) (W5 : World), v = .tuple #[.agg #[.int .i64 2, .string ⟨#[]⟩, .slice a' n' c'], .bool bo, .int .i64 0] ∧ W5.ownsRow (w1.heap.size + 3) 30 2 (.slice a' n' c') n' (flds (putF B1 f.1 T)) ∧ Below W.heap.size W W5 ∧ Fr (fun q => q = w1.heap.size + 1) W5 w) v61 wx := g61
              dsimp only at g61
              obtain ⟨a', n', c', bo, W5, rfl, hrest⟩ := g61
              exact gives_value (u := .bool bo) (by simp [go_sem, q61]) ⟨trivial, rfl, bo, rfl⟩
            · refine VC.plain rfl fun a wx hf => ?_
              obtain ⟨v61, g61, s61⟩ := hf.got 14 (by kernel_rfl) (by intro j hj; simp [eats] at hj) rfl rfl
              have q61 := evalQ s61
              replace g61 : (fun (v : Value) (w : World) => ∃ (a' : Option Addr) (n' c' : Nat) (bo : Bool) (W5 : World), v = .tuple #[.agg #[.int .i64 2, .string ⟨#[]⟩, .slice a' n' c'], .bool bo, .int .i64 0] ∧ W5.ownsRow (w1.heap.size + 3) 30 2 (.slice a' n' c') n' (flds (putF B1 f.1 T)) ∧ Below W.heap.size W W5 ∧ Fr (fun q => q = w1.heap.size + 1) W5 w) v61 wx := g61
              dsimp only at g61
              obtain ⟨a', n', c', bo, W5, rfl, hrest⟩ := g61
              exact gives_value (u := .int .i64 0) (by simp [go_sem, q61]) ⟨trivial, rfl, rfl⟩
            · refine VC.plain rfl fun a wx hf => ?_
              have s4 := hf.old 4 (by first | rfl | kernel_rfl)
              have q4 := evalQ s4
              obtain ⟨v76, g76, s76⟩ := hf.got 15 (by kernel_rfl) (by intro j hj; simp [eats] at hj) rfl rfl
              have q76 := evalQ s76
              replace g76 : (fun (v : Value) (w : World) => ∃ (a' : Option Addr) (n' c' : Nat) (W5 : World), v = .agg #[.int .i64 2, .string ⟨#[]⟩, .slice a' n' c'] ∧ W5.ownsRow (w1.heap.size + 3) 30 2 (.slice a' n' c') n' (flds (putF B1 f.1 T)) ∧ Below W.heap.size W W5 ∧ Fr (fun q => q = w1.heap.size + 1) W5 w) v76 wx := g76
              dsimp only at g76
              have hI := hf.start (by kernel_rfl)
              obtain ⟨a', n', c', W5, rfl, g1, g2, g3⟩ := g76
              exact gives_store_mid (cells := #[.int .i64 2, .string ⟨#[]⟩, .slice a' n' c']) rfl s4 s76 (there_of (fun j u hj => bcell hI (hrng j u hj)) (hblk.of_block (hI.block _ hblk.lt)) rfl) infoItem (by simp [Value.oneCell']) ⟨trivial, frCells wx _ _, a', n', c', W5, wx, rfl, g1, g2, g3, hI⟩
          · intro vs w9 hb hG
            obtain ⟨a', n', c', W5, w0, h1, h2, h3, h4, h5⟩ := hG 18 (by decide) (by decide)
            clear hG hb
            have hS9 := ((hS2.out.below h5).setb ((RF.of_owns h2).apart h4 (fun ad he _ => by have := owns_far h2 ad he; omega)) putF_ne (fun ad he _ => owns_far h2 ad he) h1)
            have e9 : putBack F (l.drop i) = putF B1 f.1 T := by rw [hB1.out, hT.out]; exact putBack_drop hf.out
            rw [← e9] at hS9
            replace hS9 := Lib.hid hS9
            clear h1 h2 h3 h4 h5 hlook hrng hblk hcall d0 d1
            simp only [putFrom, Act.put, List.setIfInBounds_toArray, List.set_cons_zero, List.set_cons_succ]
            go_wp2_with fail
            go_roundw
            case rel => exact ⟨i, by omega, by first | rfl | go_num, hS9.out⟩
            case measure => simp [intOf]
end R2
end Go.Proofs.YteoalcmhdoopnaaDoor
