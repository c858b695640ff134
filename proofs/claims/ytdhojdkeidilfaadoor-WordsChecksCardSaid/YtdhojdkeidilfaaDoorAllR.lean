/- nearhandref17.All: the region that makes one row of the table. -/
import Derived.Test.YtdhojdkeidilfaaDoorLin17
import Derived.Test.YtdhojdkeidilfaaDoorRely2
namespace Go.Proofs.YtdhojdkeidilfaaDoor
open Go.RowKit

theorem eSpec17 : Elem Tryd.prog 22 26 7 64 := elem_of Tryd.underlying22 (by decide) (by decide) (by kernel_rfl)
theorem eInt17 : Elem Tryd.prog 48 3 1 8 := elem_of Tryd.underlying48 (by decide) (by decide) (by kernel_rfl)
theorem owns_cap17 {w : World} {base e size n cap : Nat} {a : Option Addr} {xs : List Value} (h : w.ownsRow base e size (.slice a n cap) n xs) : n ≤ cap ∧ (a = none → cap = 0) := by
  obtain ⟨_, ⟨h1, h2⟩ | ⟨g, c, cur, h, _, _, h1, _⟩⟩ := h
  · cases h1; simp
  · cases h; exact ⟨h1, fun h => by cases h⟩
theorem reads_block17 {w : World} {b size : Nat} {us : Array Value} {t : TypeId} (h : w.heap[b]? = some (.cells us t (0, 0))) (hs : us.size = size) : Reads w size (.slice (some ⟨b, 0, none⟩) 1 1) 1 us.toList :=
  ⟨_, _, rfl, by simp [hs], fun j u hj => ⟨b, 0, rfl, by simp [World.cell?, h]; simpa using hj⟩⟩
theorem strs_from17 (a : Option Addr) (n c l : Nat) (h : l ≤ n) (x : Int) (hx : x = l) (W : World) : (Instr.slice 29 (.slice a n c) (some (.int .i64 x)) none none).run Tryd.prog W = .ok (sliced a l n c 1) W := by
  subst hx
  have hz : (sizeOf (Tryd.prog.elem 29)).run Tryd.prog W = .ok 1 W := by kernel_rfl
  rw [run_slice_l W _ _ _ _ (by kernel_rfl) _ _ (by omega) (by omega), hz]; rfl
def alR (i : Nat) (w w' : World) : Prop := match i with
  | 4 => Below w.heap.size w w'
  | 24 => Below w.heap.size w w'
  | 25 => True
  | _ => w' = w

theorem spec_cells_one (xs : List Spec) : (xs.flatMap Spec.cells).all (fun u => u.oneCell') = true := by
  refine List.all_eq_true.2 fun u hu => ?_
  obtain ⟨x, _, hx⟩ := List.mem_flatMap.1 hu
  simp [Spec.cells] at hx
  rcases hx with rfl | rfl | rfl | rfl | rfl | rfl | rfl <;> rfl
def intRow (l : List Int) (q : Nat) : List Value := (l.take q).map (Value.int .i64)
theorem intRow_succ {l : List Int} {q : Nat} {z : Int} (h : l[q]? = some z) : intRow l (q + 1) = intRow l q ++ [.int .i64 z] := by
  rw [intRow, List.take_add_one, h, List.map_append]; rfl
def specRow (l : List Spec) (j : Nat) : List Value := (l.take j).flatMap Spec.cells
theorem specRow_succ {l : List Spec} {j : Nat} {x : Spec} (h : l[j]? = some x) : specRow l (j + 1) = specRow l j ++ x.cells := by
  rw [specRow, List.take_add_one, h, List.flatMap_append]; simp [specRow]
namespace R2
set_option maxRecDepth 100000 in
set_option maxHeartbeats 6400000 in
theorem refAll_any (w : World) : Calls Tryd.prog 9 #[] w fun e w' => ∃ v, e = .returned v ∧ w'.ownsRow w.heap.size 26 7 v 39 (words17.flatMap Spec.cells) ∧ Below w.heap.size w w' := by
  have hown0 := owns_empty w 26 7
  have hbel0 := (Below.refl w.heap.size w).alloc (Nat.le_refl _) (.cells #[] 26)
  have hs1 : (w.alloc (.cells #[] 26)).heap.size = w.heap.size + 1 := by simp
  go_enter Tryd.func9, Tryd.ntmps9
  go_wp2_with fail
  refine (lines17_any _).mono ?_
  rintro e w2 ⟨rfl, hw2⟩
  have hrl := reads_new lines17 39 rfl (w.alloc (.cells #[] 26))
  rw [← hw2] at hrl
  have hb12 := (Below.refl (w.heap.size + 1) (w.alloc (.cells #[] 26))).alloc (by rw [hs1]; exact Nat.le_refl _) (.cells (lines17.map Value.string).toArray 9)
  rw [← hw2] at hb12
  have hown2 := owns_below hown0 hb12 (by rw [hs1]; exact Nat.le_refl _)
  have hbel2 : Below w.heap.size w w2 := hbel0.trans (hb12.mono (Nat.le_succ _))
  have hs2 : w2.heap.size = w.heap.size + 2 := by rw [hw2]; simp
  clear hw2 hown0 hbel0 hb12
  rw [hs1] at hrl
  rw [hs1]
  obtain ⟨B, hB⟩ : ∃ B, B = w.heap.size := ⟨_, rfl⟩
  rw [← hB] at hrl hs1 hs2 hown2 hbel2 ⊢
  replace hB := Lib.hid hB
  replace hrl := Lib.hid hrl
  replace hown2 := Lib.hid hown2
  replace hbel2 := Lib.hid hbel2
  replace hs2 := Lib.hid hs2
  replace hs1 := Lib.hid hs1
  go_wp2_with fail
  go_loopw [1, 14] (fun v i wr => ∃ j : Nat, j ≤ 39 ∧ i = .int .i64 j ∧ wr.ownsRow B 26 7 v j (specRow words17 j) ∧ (∀ k, v.ownBlock = some k → k ≠ B + 1) ∧ Reads wr 1 (.slice (some ⟨B + 1, 0, none⟩) 39 39) 39 (lines17.map Value.string) ∧ Below B w wr) (fun _ i _ => 39 - (intOf i).toNat)
  case atStart => exact ⟨0, Nat.zero_le _, rfl, hown2.out, fun k hk => by cases hk; exact Nat.ne_of_lt (Nat.lt_succ_self _), hrl.out, hbel2.out⟩
  case round =>
    obtain ⟨j, hj, rfl, hown, hno, hrl2, hbel⟩ := hrel
    clear hrl hown2 hbel2
    by_cases hlt : j < 39
    · have hlti : (j : Int) < 39 := by omega
      have hjl : j < lines17.length := hlt
      have hjw : j < words17.length := by rw [len17]; exact hlt
      obtain ⟨b3, o3, he3, hc3⟩ := hrl2.at (j := j) (by simp; exact hjl)
      cases he3
      have dx := hc3 _ _ (map_str_get hjl)
      rw [Nat.zero_add] at dx
      have hwl : wordsL (lines17[j]'hjl) = specWords (words17[j]'hjw) := by
        have := congrArg (fun l => l[j]?) lines_words
        simpa [hjl, hjw] using this
      have hxm := List.getElem_mem hjw
      have hxg : words17[j]? = some (words17[j]'hjw) := by simp [hjw]
      have hls := lines_short _ (List.getElem_mem hjl)
      obtain ⟨line, hline⟩ : ∃ z, z = lines17[j]'hjl := ⟨_, rfl⟩
      obtain ⟨x, hx⟩ : ∃ z, z = words17[j]'hjw := ⟨_, rfl⟩
      rw [← hline] at dx hwl hls
      rw [← hx] at hwl hxm hxg
      clear hc3 hline hx hjl hjw
      have hbs := hbel.size
      replace hown := Lib.hid hown
      replace hno := Lib.hid hno
      replace hrl2 := Lib.hid hrl2
      replace hbel := Lib.hid hbel
      replace hwl := Lib.hid hwl
      replace hxm := Lib.hid hxm
      replace hxg := Lib.hid hxg
      replace hls := Lib.hid hls
      replace hbs := Lib.hid hbs
      go_wp2_with fail
      refine (words06_any line hls.out.1 hls.out.2 wr).mono ?_
      rintro e w3 ⟨vw, rfl, ⟨n, hown3⟩, hb3⟩
      rw [hwl.out] at hown3
      obtain rfl : n = 7 := len_of hown3 rfl
      obtain ⟨bw, cw, rfl, hbw1, hbw2⟩ := hown3.form (by omega)
      have hcw := (owns_cap17 hown3).1
      have hsl : ∀ W, (Instr.slice 29 (.slice (some ⟨bw, 0, none⟩) 7 cw) (some (.int .i64 1)) none none).run Tryd.prog W = .ok (.slice (some ⟨bw, 1, none⟩) 6 (cw - 1)) W := fun W => by
        rw [strs_from17 _ 7 cw 1 (by omega) 1 rfl W]
        unfold sliced
        rw [if_neg (by omega)]
        rfl
      have hw0 : w3.cell? ⟨bw, 0, none⟩ = some (.string (lowB x.name)) := hown3.cellAt 0 (by omega)
      have hwq : ∀ q z, (numsOf x)[q]? = some z → w3.cell? ⟨bw, q + 1, none⟩ = some (.string (decN z)) := fun q z hz => by
        have hq6 : q < 6 := (List.getElem?_eq_some_iff.1 hz).1
        rw [hown3.cellAt (q + 1) (by omega)]
        simp [specWords, hz]
      have hown4 := owns_below hown.out hb3 (Nat.le_refl _)
      have hrl4 := hrl2.out.below hb3
      have hb4 := hbel.out.trans (hb3.mono (by rw [hB.out]; exact hbs.out))
      clear hown3 hb3 hbw1 hown hrl2 hbel
      have hs3 : B ≤ w3.heap.size := by rw [hB.out]; exact hb4.size
      have howni := owns_empty w3 3 1
      have hbi := (Below.refl w3.heap.size w3).alloc (Nat.le_refl _) (.cells #[] 3)
      replace hw0 := Lib.hid hw0
      replace hwq := Lib.hid hwq
      replace hown4 := Lib.hid hown4
      replace hrl4 := Lib.hid hrl4
      replace hb4 := Lib.hid hb4
      replace howni := Lib.hid howni
      replace hbi := Lib.hid hbi
      replace hs3 := Lib.hid hs3
      go_wp2_with fail
      generalize w3.alloc (.cells #[] 3) = w4 at *
      go_loopw [6, 27] (fun v i wr => ∃ q : Nat, q ≤ 6 ∧ i = .int .i64 q ∧ (∃ g ca, v = .slice (some ⟨g, 0, none⟩) q ca) ∧ wr.ownsRow w3.heap.size 3 1 v q (intRow (numsOf x) q) ∧ Below w3.heap.size w3 wr) (fun _ i _ => 6 - (intOf i).toNat)
      case atStart => exact ⟨0, Nat.zero_le _, rfl, ⟨_, _, rfl⟩, howni.out, hbi.out⟩
      case round =>
        obtain ⟨q, hq, rfl, ⟨gi, ci, rfl⟩, hownq, hbq⟩ := hrel
        clear howni hbi
        by_cases hqt : q < 6
        · have hqti : (q : Int) < 6 := by omega
          have hq1000 : q < 1000000000 := by omega
          obtain ⟨z, hz⟩ : ∃ z, (numsOf x)[q]? = some z := ⟨_, List.getElem?_eq_getElem (by simpa [numsOf] using hqt)⟩
          have hzs := nums_small x hxm.out z (List.mem_of_getElem? hz)
          have dz := hwq.out q z hz
          rw [← hbq.cell (p := ⟨bw, q + 1, none⟩) hbw2, show q + 1 = 1 + q by omega] at dz
          have hsucc := intRow_succ hz
          have hqs := hbq.size
          replace hz := Lib.hid hz
          replace hzs := Lib.hid hzs
          replace hsucc := Lib.hid hsucc
          go_wp2_with fail
          refine (num01_any z hzs.out _).mono ?_
          rintro e w5 ⟨rfl, hb5⟩
          have hown5 := owns_below hownq hb5 (Nat.le_refl _)
          have hbq5 := hbq.trans (hb5.mono hqs)
          have hqs5 := hbq5.size
          clear hownq hbq hb5 dz hqs
          go_wp2_with (at_builtin; refine append_elem rfl rfl eInt17 rfl hown5 rfl rfl rfl hq1000 hqs5 ?_)
          intro v' w6 hown' hfr
          have hbel' := Below.of_append hbq5 hfr (fun k hk => (owns_block hown5 k hk).1) hqs5
          obtain ⟨g', ca', rfl, hg1', hg2'⟩ := hown'.form (by omega)
          clear hown5 hbq5 hfr
          go_wp2_with fail
          go_roundw
          case rel => exact ⟨q + 1, by omega, by go_num, ⟨_, _, rfl⟩, by rw [hsucc.out]; exact hown', hbel'⟩
          case measure => simp [intOf]; omega
        · obtain rfl : q = 6 := by omega
          have hqti : ¬ ((6 : Nat) : Int) < 6 := by omega
          have hx6 : intRow (numsOf x) 6 = (numsOf x).map (Value.int .i64) := rfl
          rw [hx6] at hownq
          have hi0 : wr.cell? ⟨gi, 0, none⟩ = some (.int .i64 x.kind) := hownq.cellAt 0 (by omega)
          have hi1 : wr.cell? ⟨gi, 1, none⟩ = some (.int .i64 x.least) := hownq.cellAt 1 (by omega)
          have hi2 : wr.cell? ⟨gi, 2, none⟩ = some (.int .i64 x.most) := hownq.cellAt 2 (by omega)
          have hi3 : wr.cell? ⟨gi, 3, none⟩ = some (.int .i64 x.first) := hownq.cellAt 3 (by omega)
          have hi4 : wr.cell? ⟨gi, 4, none⟩ = some (.int .i64 x.last) := hownq.cellAt 4 (by omega)
          have hi5 : wr.cell? ⟨gi, 5, none⟩ = some (.int .i64 x.step) := hownq.cellAt 5 (by omega)
          have hbil := (owns_block hownq gi rfl).2
          have hbwl : bw < wr.heap.size := Nat.lt_of_lt_of_le hbw2 hbq.size
          have hd0 : wr.cell? ⟨bw, 0, none⟩ = some (.string (lowB x.name)) := by rw [hbq.cell (p := ⟨bw, 0, none⟩) hbw2]; exact hw0.out
          have hrow := owns_below hown4.out hbq (Nat.le_refl _)
          have hrl5 := hrl4.out.below hbq
          have hb5 := hb4.out.trans (hbq.mono hs3.out)
          have hBs : B ≤ wr.heap.size := by rw [hB.out]; exact hb5.size
          have hnm : (lowB x.name).size ≤ 140737488355328 := Nat.le_trans (lower_short x hxm.out) (by decide)
          have hup := upper_lower x hxm.out
          obtain ⟨nm, hnq⟩ : ∃ n, n = lowB x.name := ⟨_, rfl⟩
          rw [← hnq] at hnm hd0 hup
          clear hbq hownq hw0 hwq hown4 hrl4 hb4 hx6 hnq hs3
          replace hup := Lib.hid hup
          replace hi0 := Lib.hid hi0
          replace hi1 := Lib.hid hi1
          replace hi2 := Lib.hid hi2
          replace hi3 := Lib.hid hi3
          replace hi4 := Lib.hid hi4
          replace hi5 := Lib.hid hi5
          replace hd0 := Lib.hid hd0
          go_wp2_with fail
          replace hi0 := hi0.out
          replace hi1 := hi1.out
          replace hi2 := hi2.out
          replace hi3 := hi3.out
          replace hi4 := hi4.out
          replace hi5 := hi5.out
          replace hd0 := hd0.out
          obtain ⟨vo, hvo⟩ : ∃ v, v = u1 := ⟨_, rfl⟩
          obtain ⟨bi, hbe⟩ : ∃ v, v = gi := ⟨_, rfl⟩
          obtain ⟨W, hW⟩ : ∃ v, v = wr := ⟨_, rfl⟩
          obtain ⟨xs, hxs⟩ : ∃ v, v = specRow words17 j := ⟨_, rfl⟩
          rw [← hxs] at hrow
          subst hvo hbe hW
          have hbw := hbwl
          have hbi := hbil
          refine wp_region_rely (l := [_, _, _, _, _, _, _, _, _, _, _, _, _, _, _, _, _, _, _, _, _, _, _, _, _, _, _]) (fun _ => True) (Below W.heap.size W) alR (fun kG_ => ([fun v _ => v = vo, fun v _ => v = .slice (some ⟨bw, 0, none⟩) 7 cw, fun v _ => v = .pointer (some ⟨bw, 0, none⟩), fun v _ => v = .string nm, fun v _ => v = .string (upB nm), fun v _ => v = .slice (some ⟨bi, 0, none⟩) 6 ci, fun v _ => v = .pointer (some ⟨bi, 0, none⟩), fun v _ => v = .int .i64 x.kind, fun v _ => v = .slice (some ⟨bi, 0, none⟩) 6 ci, fun v _ => v = .pointer (some ⟨bi, 1, none⟩), fun v _ => v = .int .i64 x.least, fun v _ => v = .slice (some ⟨bi, 0, none⟩) 6 ci, fun v _ => v = .pointer (some ⟨bi, 2, none⟩), fun v _ => v = .int .i64 x.most, fun v _ => v = .slice (some ⟨bi, 0, none⟩) 6 ci, fun v _ => v = .pointer (some ⟨bi, 3, none⟩), fun v _ => v = .int .i64 x.first, fun v _ => v = .slice (some ⟨bi, 0, none⟩) 6 ci, fun v _ => v = .pointer (some ⟨bi, 4, none⟩), fun v _ => v = .int .i64 x.last, fun v _ => v = .slice (some ⟨bi, 0, none⟩) 6 ci, fun v _ => v = .pointer (some ⟨bi, 5, none⟩), fun v _ => v = .int .i64 x.step, fun v _ => v = .agg #[.string (upB nm), .int .i64 x.kind, .int .i64 x.least, .int .i64 x.most, .int .i64 x.first, .int .i64 x.last, .int .i64 x.step], fun v w => ∃ b, v = .slice (some ⟨b, 0, none⟩) 1 1 ∧ w.heap[b]? = some (.cells #[.string (upB nm), .int .i64 x.kind, .int .i64 x.least, .int .i64 x.most, .int .i64 x.first, .int .i64 x.last, .int .i64 x.step] 26 (0, 0)), fun v w => Fr (fun k => vo.ownBlock = some k) W w ∧ w.ownsRow B 26 7 v (j + 1) (xs ++ ([.string (upB nm), .int .i64 x.kind, .int .i64 x.least, .int .i64 x.most, .int .i64 x.first, .int .i64 x.last, .int .i64 x.step] : List Value)) ∧ ∀ k, v.ownBlock = some k → vo.ownBlock = some k ∨ W.heap.size ≤ k, fun v w => Fr (fun k => vo.ownBlock = some k) W w ∧ w.ownsRow B 26 7 v (j + 1) (xs ++ ([.string (upB nm), .int .i64 x.kind, .int .i64 x.least, .int .i64 x.most, .int .i64 x.first, .int .i64 x.last, .int .i64 x.step] : List Value)) ∧ ∀ k, v.ownBlock = some k → vo.ownBlock = some k ∨ W.heap.size ≤ k] : List (Value → World → Prop)).getD kG_ (fun _ _ => True)) (eats [(25, 24), (26, 25)]) (isIn [25]) (by kernel_rfl) (by kernel_rfl) (by kernel_rfl) trivial ((Below.refl _ _).drew) ?_ ?_ ?_ ?_
          · intro i kG_ u w w' hne hE hg hr
            rcases kG_ with _ | _ | _ | _ | _ | _ | _ | _ | _ | _ | _ | _ | _ | _ | _ | _ | _ | _ | _ | _ | _ | _ | _ | _ | _ | _ | _ | kG_
            · exact hg
            · exact hg
            · exact hg
            · exact hg
            · exact hg
            · exact hg
            · exact hg
            · exact hg
            · exact hg
            · exact hg
            · exact hg
            · exact hg
            · exact hg
            · exact hg
            · exact hg
            · exact hg
            · exact hg
            · exact hg
            · exact hg
            · exact hg
            · exact hg
            · exact hg
            · exact hg
            · exact hg
            · replace hg : (fun (v : Value) (w : World) => ∃ b, v = .slice (some ⟨b, 0, none⟩) 1 1 ∧ w.heap[b]? = some (.cells #[.string (upB nm), .int .i64 x.kind, .int .i64 x.least, .int .i64 x.most, .int .i64 x.first, .int .i64 x.last, .int .i64 x.step] 26 (0, 0))) u w := hg
              show (fun (v : Value) (w : World) => ∃ b, v = .slice (some ⟨b, 0, none⟩) 1 1 ∧ w.heap[b]? = some (.cells #[.string (upB nm), .int .i64 x.kind, .int .i64 x.least, .int .i64 x.most, .int .i64 x.first, .int .i64 x.last, .int .i64 x.step] 26 (0, 0))) u w'
              dsimp only at hg ⊢
              replace hE : exB _ _ i 24 = false := hE
              replace hne : 24 ≠ i := hne
              unfold alR at hr
              split at hr
              all_goals first
                | exact absurd rfl hne
                | exact absurd (hE.symm.trans (by decide +kernel : exB _ _ _ _ = true)) (by decide)
                | (subst hr; exact hg)
                | ((obtain ⟨b, h1, h2⟩ := hg; exact ⟨b, h1, (hr.block b (Array.getElem?_eq_some_iff.1 h2).1).trans h2⟩))
            · replace hg : (fun (v : Value) (w : World) => Fr (fun k => vo.ownBlock = some k) W w ∧ w.ownsRow B 26 7 v (j + 1) (xs ++ ([.string (upB nm), .int .i64 x.kind, .int .i64 x.least, .int .i64 x.most, .int .i64 x.first, .int .i64 x.last, .int .i64 x.step] : List Value)) ∧ ∀ k, v.ownBlock = some k → vo.ownBlock = some k ∨ W.heap.size ≤ k) u w := hg
              show (fun (v : Value) (w : World) => Fr (fun k => vo.ownBlock = some k) W w ∧ w.ownsRow B 26 7 v (j + 1) (xs ++ ([.string (upB nm), .int .i64 x.kind, .int .i64 x.least, .int .i64 x.most, .int .i64 x.first, .int .i64 x.last, .int .i64 x.step] : List Value)) ∧ ∀ k, v.ownBlock = some k → vo.ownBlock = some k ∨ W.heap.size ≤ k) u w'
              dsimp only at hg ⊢
              replace hE : exB _ _ i 25 = false := hE
              replace hne : 25 ≠ i := hne
              unfold alR at hr
              split at hr
              all_goals first
                | exact absurd rfl hne
                | exact absurd (hE.symm.trans (by decide +kernel : exB _ _ _ _ = true)) (by decide)
                | (subst hr; exact hg)
                | (fail)
            · replace hg : (fun (v : Value) (w : World) => Fr (fun k => vo.ownBlock = some k) W w ∧ w.ownsRow B 26 7 v (j + 1) (xs ++ ([.string (upB nm), .int .i64 x.kind, .int .i64 x.least, .int .i64 x.most, .int .i64 x.first, .int .i64 x.last, .int .i64 x.step] : List Value)) ∧ ∀ k, v.ownBlock = some k → vo.ownBlock = some k ∨ W.heap.size ≤ k) u w := hg
              show (fun (v : Value) (w : World) => Fr (fun k => vo.ownBlock = some k) W w ∧ w.ownsRow B 26 7 v (j + 1) (xs ++ ([.string (upB nm), .int .i64 x.kind, .int .i64 x.least, .int .i64 x.most, .int .i64 x.first, .int .i64 x.last, .int .i64 x.step] : List Value)) ∧ ∀ k, v.ownBlock = some k → vo.ownBlock = some k ∨ W.heap.size ≤ k) u w'
              dsimp only at hg ⊢
              replace hE : exB _ _ i 26 = false := hE
              replace hne : 26 ≠ i := hne
              unfold alR at hr
              split at hr
              all_goals first
                | exact absurd rfl hne
                | exact absurd (hE.symm.trans (by decide +kernel : exB _ _ _ _ = true)) (by decide)
                | (subst hr; exact hg)
                | (fail)
            · trivial
          · intro i w w' hF hI hr
            unfold alR at hr
            split at hr
            · exact hI.trans (hr.mono hI.size)
            · exact hI.trans (hr.mono hI.size)
            · exact absurd hF (by decide)
            · subst hr; exact hI
          · refine ⟨?_, ?_, ?_, ?_, ?_, ?_, ?_, ?_, ?_, ?_, ?_, ?_, ?_, ?_, ?_, ?_, ?_, ?_, ?_, ?_, ?_, ?_, ?_, ?_, ?_, ?_, ?_, trivial⟩
            · refine VC.plain rfl fun a wx hf => ?_
              have s1 := hf.old 1 (by first | rfl | kernel_rfl)
              have q1 := evalQ s1
              exact gives_value (by simp [go_sem, q1]) ⟨hf.c, rfl, rfl⟩
            · refine VC.plain rfl fun a wx hf => ?_
              have s4 := hf.old 4 (by first | rfl | kernel_rfl)
              have q4 := evalQ s4
              exact gives_value (by simp [go_sem, q4]) ⟨hf.c, rfl, rfl⟩
            · refine VC.plain rfl fun a wx hf => ?_
              obtain ⟨v42, g42, s42⟩ := hf.got 1 (by kernel_rfl) (by intro j hj; simp [eats] at hj) rfl rfl
              replace s42 := s42.trans (show v42 = .slice (some ⟨bw, 0, none⟩) 7 cw from g42)
              clear g42
              have q42 := evalQ s42
              exact gives_value (by simp [go_sem, q42, Tryd.underlying29]) ⟨hf.c, rfl, rfl⟩
            · refine VC.plain rfl fun a wx hf => ?_
              obtain ⟨v43, g43, s43⟩ := hf.got 2 (by kernel_rfl) (by intro j hj; simp [eats] at hj) rfl rfl
              replace s43 := s43.trans (show v43 = .pointer (some ⟨bw, 0, none⟩) from g43)
              clear g43
              have q43 := evalQ s43
              have hI := hf.start (by kernel_rfl)
              exact gives_value (by simp [go_sem, q43, hI.cell (p := ⟨bw, 0, none⟩) hbw, hd0]) ⟨hf.c, rfl, rfl⟩
            · refine VC.plain rfl fun a wx hf => ?_
              obtain ⟨v44, g44, s44⟩ := hf.got 3 (by kernel_rfl) (by intro j hj; simp [eats] at hj) rfl rfl
              replace s44 := s44.trans (show v44 = .string nm from g44)
              clear g44
              have q44 := evalQ s44
              exact gives_call (f := 20) (args := #[.string nm]) (by simp [go_sem, q44]) ((refUpper_any nm hnm wx).mono fun e w' ⟨he, hb⟩ => ⟨_, he, hf.c, hb, rfl⟩)
            · refine VC.plain rfl fun a wx hf => ?_
              have s6 := hf.old 6 (by first | rfl | kernel_rfl)
              have q6 := evalQ s6
              exact gives_value (by simp [go_sem, q6]) ⟨hf.c, rfl, rfl⟩
            · refine VC.plain rfl fun a wx hf => ?_
              obtain ⟨v46, g46, s46⟩ := hf.got 5 (by kernel_rfl) (by intro j hj; simp [eats] at hj) rfl rfl
              replace s46 := s46.trans (show v46 = .slice (some ⟨bi, 0, none⟩) 6 ci from g46)
              clear g46
              have q46 := evalQ s46
              exact gives_value (by simp [go_sem, q46, Tryd.underlying48]) ⟨hf.c, rfl, rfl⟩
            · refine VC.plain rfl fun a wx hf => ?_
              obtain ⟨v47, g47, s47⟩ := hf.got 6 (by kernel_rfl) (by intro j hj; simp [eats] at hj) rfl rfl
              replace s47 := s47.trans (show v47 = .pointer (some ⟨bi, 0, none⟩) from g47)
              clear g47
              have q47 := evalQ s47
              have hI := hf.start (by kernel_rfl)
              exact gives_value (by simp [go_sem, q47, hI.cell (p := ⟨bi, 0, none⟩) hbi, hi0]) ⟨hf.c, rfl, rfl⟩
            · refine VC.plain rfl fun a wx hf => ?_
              have s6 := hf.old 6 (by first | rfl | kernel_rfl)
              have q6 := evalQ s6
              exact gives_value (by simp [go_sem, q6]) ⟨hf.c, rfl, rfl⟩
            · refine VC.plain rfl fun a wx hf => ?_
              obtain ⟨v49, g49, s49⟩ := hf.got 8 (by kernel_rfl) (by intro j hj; simp [eats] at hj) rfl rfl
              replace s49 := s49.trans (show v49 = .slice (some ⟨bi, 0, none⟩) 6 ci from g49)
              clear g49
              have q49 := evalQ s49
              exact gives_value (by simp [go_sem, q49, Tryd.underlying48]) ⟨hf.c, rfl, rfl⟩
            · refine VC.plain rfl fun a wx hf => ?_
              obtain ⟨v50, g50, s50⟩ := hf.got 9 (by kernel_rfl) (by intro j hj; simp [eats] at hj) rfl rfl
              replace s50 := s50.trans (show v50 = .pointer (some ⟨bi, 1, none⟩) from g50)
              clear g50
              have q50 := evalQ s50
              have hI := hf.start (by kernel_rfl)
              exact gives_value (by simp [go_sem, q50, hI.cell (p := ⟨bi, 1, none⟩) hbi, hi1]) ⟨hf.c, rfl, rfl⟩
            · refine VC.plain rfl fun a wx hf => ?_
              have s6 := hf.old 6 (by first | rfl | kernel_rfl)
              have q6 := evalQ s6
              exact gives_value (by simp [go_sem, q6]) ⟨hf.c, rfl, rfl⟩
            · refine VC.plain rfl fun a wx hf => ?_
              obtain ⟨v52, g52, s52⟩ := hf.got 11 (by kernel_rfl) (by intro j hj; simp [eats] at hj) rfl rfl
              replace s52 := s52.trans (show v52 = .slice (some ⟨bi, 0, none⟩) 6 ci from g52)
              clear g52
              have q52 := evalQ s52
              exact gives_value (by simp [go_sem, q52, Tryd.underlying48]) ⟨hf.c, rfl, rfl⟩
            · refine VC.plain rfl fun a wx hf => ?_
              obtain ⟨v53, g53, s53⟩ := hf.got 12 (by kernel_rfl) (by intro j hj; simp [eats] at hj) rfl rfl
              replace s53 := s53.trans (show v53 = .pointer (some ⟨bi, 2, none⟩) from g53)
              clear g53
              have q53 := evalQ s53
              have hI := hf.start (by kernel_rfl)
              exact gives_value (by simp [go_sem, q53, hI.cell (p := ⟨bi, 2, none⟩) hbi, hi2]) ⟨hf.c, rfl, rfl⟩
            · refine VC.plain rfl fun a wx hf => ?_
              have s6 := hf.old 6 (by first | rfl | kernel_rfl)
              have q6 := evalQ s6
              exact gives_value (by simp [go_sem, q6]) ⟨hf.c, rfl, rfl⟩
            · refine VC.plain rfl fun a wx hf => ?_
              obtain ⟨v55, g55, s55⟩ := hf.got 14 (by kernel_rfl) (by intro j hj; simp [eats] at hj) rfl rfl
              replace s55 := s55.trans (show v55 = .slice (some ⟨bi, 0, none⟩) 6 ci from g55)
              clear g55
              have q55 := evalQ s55
              exact gives_value (by simp [go_sem, q55, Tryd.underlying48]) ⟨hf.c, rfl, rfl⟩
            · refine VC.plain rfl fun a wx hf => ?_
              obtain ⟨v56, g56, s56⟩ := hf.got 15 (by kernel_rfl) (by intro j hj; simp [eats] at hj) rfl rfl
              replace s56 := s56.trans (show v56 = .pointer (some ⟨bi, 3, none⟩) from g56)
              clear g56
              have q56 := evalQ s56
              have hI := hf.start (by kernel_rfl)
              exact gives_value (by simp [go_sem, q56, hI.cell (p := ⟨bi, 3, none⟩) hbi, hi3]) ⟨hf.c, rfl, rfl⟩
            · refine VC.plain rfl fun a wx hf => ?_
              have s6 := hf.old 6 (by first | rfl | kernel_rfl)
              have q6 := evalQ s6
              exact gives_value (by simp [go_sem, q6]) ⟨hf.c, rfl, rfl⟩
            · refine VC.plain rfl fun a wx hf => ?_
              obtain ⟨v58, g58, s58⟩ := hf.got 17 (by kernel_rfl) (by intro j hj; simp [eats] at hj) rfl rfl
              replace s58 := s58.trans (show v58 = .slice (some ⟨bi, 0, none⟩) 6 ci from g58)
              clear g58
              have q58 := evalQ s58
              exact gives_value (by simp [go_sem, q58, Tryd.underlying48]) ⟨hf.c, rfl, rfl⟩
            · refine VC.plain rfl fun a wx hf => ?_
              obtain ⟨v59, g59, s59⟩ := hf.got 18 (by kernel_rfl) (by intro j hj; simp [eats] at hj) rfl rfl
              replace s59 := s59.trans (show v59 = .pointer (some ⟨bi, 4, none⟩) from g59)
              clear g59
              have q59 := evalQ s59
              have hI := hf.start (by kernel_rfl)
              exact gives_value (by simp [go_sem, q59, hI.cell (p := ⟨bi, 4, none⟩) hbi, hi4]) ⟨hf.c, rfl, rfl⟩
            · refine VC.plain rfl fun a wx hf => ?_
              have s6 := hf.old 6 (by first | rfl | kernel_rfl)
              have q6 := evalQ s6
              exact gives_value (by simp [go_sem, q6]) ⟨hf.c, rfl, rfl⟩
            · refine VC.plain rfl fun a wx hf => ?_
              obtain ⟨v61, g61, s61⟩ := hf.got 20 (by kernel_rfl) (by intro j hj; simp [eats] at hj) rfl rfl
              replace s61 := s61.trans (show v61 = .slice (some ⟨bi, 0, none⟩) 6 ci from g61)
              clear g61
              have q61 := evalQ s61
              exact gives_value (by simp [go_sem, q61, Tryd.underlying48]) ⟨hf.c, rfl, rfl⟩
            · refine VC.plain rfl fun a wx hf => ?_
              obtain ⟨v62, g62, s62⟩ := hf.got 21 (by kernel_rfl) (by intro j hj; simp [eats] at hj) rfl rfl
              replace s62 := s62.trans (show v62 = .pointer (some ⟨bi, 5, none⟩) from g62)
              clear g62
              have q62 := evalQ s62
              have hI := hf.start (by kernel_rfl)
              exact gives_value (by simp [go_sem, q62, hI.cell (p := ⟨bi, 5, none⟩) hbi, hi5]) ⟨hf.c, rfl, rfl⟩
            · refine VC.plain rfl fun a wx hf => ?_
              obtain ⟨v45, g45, s45⟩ := hf.got 4 (by kernel_rfl) (by intro j hj; simp [eats] at hj) rfl rfl
              replace s45 := s45.trans (show v45 = .string (upB nm) from g45)
              clear g45
              have q45 := evalQ s45
              obtain ⟨v48, g48, s48⟩ := hf.got 7 (by kernel_rfl) (by intro j hj; simp [eats] at hj) rfl rfl
              replace s48 := s48.trans (show v48 = .int .i64 x.kind from g48)
              clear g48
              have q48 := evalQ s48
              obtain ⟨v51, g51, s51⟩ := hf.got 10 (by kernel_rfl) (by intro j hj; simp [eats] at hj) rfl rfl
              replace s51 := s51.trans (show v51 = .int .i64 x.least from g51)
              clear g51
              have q51 := evalQ s51
              obtain ⟨v54, g54, s54⟩ := hf.got 13 (by kernel_rfl) (by intro j hj; simp [eats] at hj) rfl rfl
              replace s54 := s54.trans (show v54 = .int .i64 x.most from g54)
              clear g54
              have q54 := evalQ s54
              obtain ⟨v57, g57, s57⟩ := hf.got 16 (by kernel_rfl) (by intro j hj; simp [eats] at hj) rfl rfl
              replace s57 := s57.trans (show v57 = .int .i64 x.first from g57)
              clear g57
              have q57 := evalQ s57
              obtain ⟨v60, g60, s60⟩ := hf.got 19 (by kernel_rfl) (by intro j hj; simp [eats] at hj) rfl rfl
              replace s60 := s60.trans (show v60 = .int .i64 x.last from g60)
              clear g60
              have q60 := evalQ s60
              obtain ⟨v63, g63, s63⟩ := hf.got 22 (by kernel_rfl) (by intro j hj; simp [eats] at hj) rfl rfl
              replace s63 := s63.trans (show v63 = .int .i64 x.step from g63)
              clear g63
              have q63 := evalQ s63
              exact gives_value (by simp [go_sem, q45, q48, q51, q54, q57, q60, q63, Tryd.underlying26]) ⟨hf.c, rfl, rfl⟩
            · refine VC.plain rfl fun a wx hf => ?_
              obtain ⟨v64, g64, s64⟩ := hf.got 23 (by kernel_rfl) (by intro j hj; simp [eats] at hj) rfl rfl
              replace s64 := s64.trans (show v64 = .agg #[.string (upB nm), .int .i64 x.kind, .int .i64 x.least, .int .i64 x.most, .int .i64 x.first, .int .i64 x.last, .int .i64 x.step] from g64)
              clear g64
              have q64 := evalQ s64
              exact gives_value (u := .slice (some ⟨wx.heap.size, 0, none⟩) 1 1) (w' := wx.alloc (.cells #[.string (upB nm), .int .i64 x.kind, .int .i64 x.least, .int .i64 x.most, .int .i64 x.first, .int .i64 x.last, .int .i64 x.step] 26)) (by simp [go_sem, q64, Tryd.underlying22]) ⟨hf.c, (Below.refl _ _).alloc (Nat.le_refl _) _, wx.heap.size, rfl, (MapKept.heap_alloc wx _).1⟩
            · refine VC.plain rfl fun a wx hf => ?_
              obtain ⟨v41, g41, s41⟩ := hf.got 0 (by kernel_rfl) (by intro j hj; simp [eats] at hj) rfl rfl
              replace s41 := s41.trans (show v41 = vo from g41)
              clear g41
              have q41 := evalQ s41
              obtain ⟨v65, g65, s65⟩ := hf.got 24 (by kernel_rfl) (by intro j hj; simp [eats] at hj; omega) rfl rfl
              have q65 := evalQ s65
              replace g65 : (fun (v : Value) (w : World) => ∃ b, v = .slice (some ⟨b, 0, none⟩) 1 1 ∧ w.heap[b]? = some (.cells #[.string (upB nm), .int .i64 x.kind, .int .i64 x.least, .int .i64 x.most, .int .i64 x.first, .int .i64 x.last, .int .i64 x.step] 26 (0, 0))) v65 wx := g65
              dsimp only at g65
              have hI := hf.start (by kernel_rfl)
              obtain ⟨b, rfl, hb⟩ := g65
              have hown1 : wx.ownsRow B 26 7 vo j xs := owns_fr hrow (Fr.of_below hI) (fun k hk hle => by have := (owns_block hrow k hk).2; omega)
              refine gives_append rfl eSpec17 s41 hown1 s65 (reads_block17 hb rfl) (fun h => by cases h) (by simp [Value.oneCell']) (by omega) (by have := hI.size; omega) (fun v' w' h1 h2 h3 => ?_)
              have hfr : Fr (fun k => vo.ownBlock = some k) W w' := Fr.trans ((Fr.of_below hI).mono (fun j hj hle => absurd hle (by omega))) h2
              refine ⟨hf.c, trivial, hfr, h1, fun k hk => ?_⟩
              rcases h3 k hk with h | h
              · exact Or.inl h
              · exact Or.inr (Nat.le_trans hI.size h)
            · refine VC.plain rfl fun a wx hf => ?_
              obtain ⟨v66, g66, s66⟩ := hf.got 25 (by kernel_rfl) (by intro j hj; simp [eats] at hj; omega) rfl rfl
              have q66 := evalQ s66
              replace g66 : (fun (v : Value) (w : World) => Fr (fun k => vo.ownBlock = some k) W w ∧ w.ownsRow B 26 7 v (j + 1) (xs ++ ([.string (upB nm), .int .i64 x.kind, .int .i64 x.least, .int .i64 x.most, .int .i64 x.first, .int .i64 x.last, .int .i64 x.step] : List Value)) ∧ ∀ k, v.ownBlock = some k → vo.ownBlock = some k ∨ W.heap.size ≤ k) v66 wx := g66
              dsimp only at g66
              exact gives_value (by simp [go_sem, q66]) ⟨hf.c, rfl, g66⟩
          · intro vs w9 hb hG
            obtain ⟨g1, g2, g3⟩ := hG 26 (by decide) (by decide)
            replace g2 : w9.ownsRow B 26 7 (vs 26) (j + 1) (xs ++ ([.string (upB nm), .int .i64 x.kind, .int .i64 x.least, .int .i64 x.most, .int .i64 x.first, .int .i64 x.last, .int .i64 x.step] : List Value)) := g2
            clear hG
            have hrow9 : ([.string (upB nm), .int .i64 x.kind, .int .i64 x.least, .int .i64 x.most, .int .i64 x.first, .int .i64 x.last, .int .i64 x.step] : List Value) = x.cells := by rw [hup.out]; rfl
            rw [hrow9, hxs, ← specRow_succ hxg.out] at g2
            have hbl : B + 1 < W.heap.size := by
              obtain ⟨b3, o3, he3, hc3⟩ := hrl5.at (j := 0) (by simp [lines17])
              cases he3
              exact World.block_lt_of_cell? _ _ (hc3 0 _ (map_str_get (xs := lines17) (j := 0) (by decide)))
            have hno9 : ∀ k, (vs 26).ownBlock = some k → k ≠ B + 1 := fun k hk => by
              rcases g3 k hk with h | h
              · exact hno.out k h
              · omega
            have hrl9 : Reads w9 1 (.slice (some ⟨B + 1, 0, none⟩) 39 39) 39 (lines17.map Value.string) := by
              obtain ⟨a', c', e', hl', hc'⟩ := hrl5
              refine ⟨a', c', e', hl', fun q u hq => ?_⟩
              obtain ⟨b, o, ha, hcq⟩ := hc' q u hq
              refine ⟨b, o, ha, g1.cell hcq (fun h => ?_)⟩
              rw [ha] at e'
              cases e'
              exact hno.out _ h rfl
            have hb9 := hb5.trans (g1.below hBs (fun i hi h => by have := (owns_block hrow i h).1; omega))
            clear g1 g3 hrow hrl5 hb5 hrow9
            replace g2 := Lib.hid g2
            replace hno9 := Lib.hid hno9
            replace hrl9 := Lib.hid hrl9
            replace hb9 := Lib.hid hb9
            simp only [putFrom, Act.put, List.setIfInBounds_toArray, List.set_cons_zero, List.set_cons_succ]
            go_wp2_with fail
            go_roundw
            case rel => exact ⟨j + 1, by omega, by go_num, g2.out, hno9.out, hrl9.out, hb9.out⟩
            case measure => simp [intOf]; omega
    · have hjt : j = 39 := by omega
      subst hjt
      have h39 : specRow words17 39 = words17.flatMap Spec.cells := rfl
      rw [h39] at hown
      have hlti : ¬ ((39 : Nat) : Int) < 39 := by omega
      replace hown := Lib.hid hown
      replace hbel := Lib.hid hbel
      clear hrl2 hno
      go_wp2_with fail
      go_ret
      exact ⟨_, rfl, by rw [← hB.out]; exact hown.out, by rw [← hB.out]; exact hbel.out⟩
end R2
end Go.Proofs.YtdhojdkeidilfaaDoor
