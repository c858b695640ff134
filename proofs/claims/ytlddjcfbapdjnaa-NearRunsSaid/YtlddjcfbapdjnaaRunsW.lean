/- NearRuns: its walk. -/
import Derived.Test.YtlddjcfbapdjnaaRuns23
import Derived.Test.YtlddjcfbapdjnaaLaw23
import Derived.Deep.DeepCutAuto
import Derived.Deep.CutBlock
namespace Go.Proofs.Ytlddjcfbapdjnaa
open Go.RowKit

theorem keep7 {w w' : World} {b : Nat} {fp : List Nat} {c1 c3 c4 c5 c6 c7 c8 : Value} (hf : Fr (· ∈ fp) w w') (hb : b ∉ fp)
    (h : w.cell? ⟨b, 1, none⟩ = some c1 ∧ w.cell? ⟨b, 3, none⟩ = some c3 ∧ w.cell? ⟨b, 4, none⟩ = some c4 ∧ w.cell? ⟨b, 5, none⟩ = some c5 ∧ w.cell? ⟨b, 6, none⟩ = some c6 ∧ w.cell? ⟨b, 7, none⟩ = some c7 ∧ w.cell? ⟨b, 8, none⟩ = some c8) :
    w'.cell? ⟨b, 1, none⟩ = some c1 ∧ w'.cell? ⟨b, 3, none⟩ = some c3 ∧ w'.cell? ⟨b, 4, none⟩ = some c4 ∧ w'.cell? ⟨b, 5, none⟩ = some c5 ∧ w'.cell? ⟨b, 6, none⟩ = some c6 ∧ w'.cell? ⟨b, 7, none⟩ = some c7 ∧ w'.cell? ⟨b, 8, none⟩ = some c8 := by
  obtain ⟨h1, h3, h4, h5, h6, h7, h8⟩ := h
  exact ⟨hf.cell h1 hb, hf.cell h3 hb, hf.cell h4 hb, hf.cell h5 hb, hf.cell h6 hb, hf.cell h7 hb, hf.cell h8 hb⟩
theorem cnt_look {s : NS} {k : Nat} (h : PL s k) (key : ByteArray) : ((lookE s.es key).getD V.zero).count ≤ 100000000 := by
  cases hl : lookE s.es key with
  | none => simp [V.zero, V.count, V.countL]
  | some v => exact h.cnt _ (lookE_mem hl)
theorem drop_is (s : NS) (key : ByteArray) : decide (key ∈ s.keys) = (lookE s.es key).isSome := by
  cases hl : lookE s.es key with
  | none => exact decide_eq_false (lookE_none.1 hl)
  | some v => exact decide_eq_true (List.mem_map.2 ⟨_, lookE_mem hl, rfl⟩)
theorem box6 {w : World} {cs : List Value} {t : TypeId} (h : cs.length = 6) (c0 c1 c2 c3 c4 c5 : Value) (he : cs = [c0, c1, c2, c3, c4, c5]) : ∀ j u, cs[j]? = some u → (w.alloc (.cells #[c0, c1, c2, c3, c4, c5] t)).cell? ⟨w.heap.size, j, none⟩ = some u := fun j u hj => by
  rw [World.cell?_alloc_new]; rw [he] at hj; simpa using hj

set_option maxHeartbeats 12800000 in
set_option maxRecDepth 100000 in
theorem runs23_any {w : World} {a : Option Addr} {n cap : Nat} {acts : List Act23} (hx : Acts w a n acts) (most : Int) :
    Calls Try.prog 9 #[.int .i64 most, .slice a n cap] w fun e w' => e = .returned (.bool true) ∧ Below w.heap.size w w' := by

  by_cases h80 : 80 < n
  · go_enter Try.func9, Try.ntmps9
    go_wp2_with fail
    refine (alive23_any w).mono ?_
    rintro e w1 ⟨rfl, hb1⟩
    go_wp2
    go_ret
    exact ⟨rfl, hb1⟩
  go_enter Try.func9, Try.ntmps9
  go_wp2_with fail
  refine (alive23_any w).mono ?_
  rintro e w1 ⟨rfl, hb1⟩
  go_wp2_with fail
  refine (Av.near_new (av := []) most w1 (fun b hb => by cases hb)).mono ?_
  rintro e w2 ⟨nb, fp, rfl, hN, hb2, hfp⟩
  go_wp2_with fail
  refine (ref_new w.cell? most w2).mono ?_
  rintro e w3 ⟨r, rfl, hR, hb3, hrl⟩
  have hs1 := hb1.size
  have hs2 := hb2.size
  have hJ : JR w w3 nb fp r (.slice none 0 0) (.slice none 0 0) ⟨[], [], 0, max most 0⟩ ⟨[], [], 0, max most 0⟩ := by
    obtain ⟨rb, m, vb, tb, ns, hh⟩ := hN
    have hN := Av.Near.lt ⟨rb, m, vb, tb, ns, hh⟩
    refine ⟨⟨rb, m, vb, tb, ns, hh.avs ((Fr.of_below hb3).mono (fun i hi hle => absurd hle (by omega))) (fun b _ hb => by cases hb) (fun b hb => Or.inr (Nat.le_trans hrl (hR.lt b hb).1)) (fun b hb => (hR.lt b hb).2)⟩, hR, fun b hb => by have := hfp b hb; omega, fun b hb => by have := (hR.lt b hb).1; omega, fun b hb hm => ?_, hb1.trans ((hb2.trans (hb3.mono hb2.size)).mono hs1)⟩
    have h1 := (hR.lt b hm).1; have h2 := hN b hb; omega
  clear hN hR hb2 hb3 hfp hrl hb1 hs1 hs2
  go_wp2_with fail
  go_loopw [29] (fun s29 wr => ∃ (k : Nat) (fp : List Nat) (sE sT : Value) (s : NS), k ≤ n ∧ s29 = .int .i64 k ∧ JR w wr nb fp r sE sT s s ∧ PL s k) (fun s29 _ => n - (intOf s29).toNat)
  case atStart => exact ⟨0, fp, _, _, _, Nat.zero_le _, rfl, hJ, ⟨Int.le_refl _, Int.le_refl _, Nat.le_refl _, Nat.le_refl _, fun p hp => by cases hp⟩⟩
  case round =>
    obtain ⟨k, fp, sE, sT, s, hk, rfl, hJr, hP⟩ := hrel
    clear hJ
    by_cases hlt : k < n
    · have hkx : k < acts.length := by have := hx.len; omega
      obtain ⟨x, hxe⟩ : ∃ x, x = acts[k] := ⟨_, rfl⟩
      have hxm : x ∈ acts := by rw [hxe]; exact List.getElem_mem hkx
      have hrv := hx.rv x hxm
      obtain ⟨b1, o1, rfl, hc1⟩ := hx.at_ k x (by rw [hxe]; simp [hkx])
      have hb1w : b1 < w.heap.size := World.block_lt_of_cell? w _ (hc1 0 _ rfl)
      have hcr : wr.rangeAt b1 (o1 + k * 9) x.cells := fun j u hj => by rw [hJr.bel.cell (by exact hb1w)]; exact hc1 j u hj
      obtain ⟨kind, N, key, v, va, vcap⟩ := x
      unfold Act23.cells at hcr
      simp only at hcr hrv
      replace hcr := Lib.hid hcr
      replace hrv := Lib.hid hrv
      clear hc1 hxe hxm
      have hk80 : k ≤ 80 := by omega
      obtain ⟨WA, hWA⟩ : ∃ WA, WA = wr.alloc (.cells #[.int .i64 kind, .int .i64 N, .string key, .int .i64 v.kind, .string v.text, .int .i64 v.int, .float .f64 v.real, .bool v.flag, .slice va v.list.length vcap] 58) := ⟨_, rfl⟩
      have hbA : Below wr.heap.size wr WA := by rw [hWA]; exact (Below.refl _ _).alloc (Nat.le_refl _) _
      have hq : ∀ j u, [Value.int .i64 kind, .int .i64 N, .string key, .int .i64 v.kind, .string v.text, .int .i64 v.int, .float .f64 v.real, .bool v.flag, .slice va v.list.length vcap][j]? = some u → WA.cell? ⟨wr.heap.size, j, none⟩ = some u := fun j u hj => by
        rw [hWA, World.cell?_alloc_new]; simpa using hj
      have hJA := hJr.below hbA
      have nbN : wr.heap.size ∉ fp := fun hm => by have := hJr.near.lt _ hm; omega
      have nbR : wr.heap.size ∉ rfp r sE sT := fun hm => by have := (hJr.rn.lt _ hm).2; omega
      have q0 := hq 0 _ rfl
      have q1 := hq 1 _ rfl
      have q2 := hq 2 _ rfl
      have q3 := hq 3 _ rfl
      have q4 := hq 4 _ rfl
      have q5 := hq 5 _ rfl
      have q6 := hq 6 _ rfl
      have q7 := hq 7 _ rfl
      have q8 := hq 8 _ rfl
      replace hWA := Lib.hid hWA
      clear hq hbA hJr
      go_wp2_with (first
        | (refine wpList_load_mid rfl 58 _ rfl b1 (o1 + k * 9) rfl _ _ hcr.out Try.underlying58 rfl infoAct23 ?_))
      rw [← hWA.out]
      refine (small_any (v := v) (hrv.out.mono (cell_below hJA.bel))).mono ?_
      rintro e w4 ⟨b, rfl, hb, hb4⟩
      have hJ4 := hJA.below hb4
      cases b with
      | false =>
        replace hb := Lib.hid hb
        clear q0 q1 q2 q3 q4 q5 q6 q7 q8
        go_wp2
        go_ret
        exact ⟨rfl, hJ4.bel⟩
      | true =>
      have hcnt : v.count ≤ 100000000 := by have := (hb rfl).1; omega
      replace q0 := cell_below hb4 _ _ q0
      replace q1 := cell_below hb4 _ _ q1
      replace q2 := cell_below hb4 _ _ q2
      replace q3 := cell_below hb4 _ _ q3
      replace q4 := cell_below hb4 _ _ q4
      replace q5 := cell_below hb4 _ _ q5
      replace q6 := cell_below hb4 _ _ q6
      replace q7 := cell_below hb4 _ _ q7
      replace q8 := cell_below hb4 _ _ q8
      have hnd := hJ4.near.nodup
      have hes := hP.es
      have hts := hP.ts
      have hrv4 := hrv.out.mono (cell_below hJ4.bel)
      have hwl : wr.heap.size < w4.heap.size := World.block_lt_of_cell? w4 ⟨wr.heap.size, 0, none⟩ q0
      replace hnd := Lib.hid hnd
      replace hcnt := Lib.hid hcnt
      replace hrv4 := Lib.hid hrv4
      replace hP := Lib.hid hP
      replace hrv := Lib.hid hrv
      clear hb hb4 hJA hWA hcr
      go_upto_block 2 with fail
      obtain ⟨b8, hb8⟩ : ∃ b8, b8 = wr.heap.size := ⟨_, rfl⟩
      rw [← hb8] at q0 q1 q2 q3 q4 q5 q6 q7 q8 nbN nbR hwl
      rw [← hb8]
      clear hb8
      go_cut [9] (fun c9 wx => ∃ (fp : List Nat) (sE sT : Value) (s : NS), c9 = .bool true ∧ JR w wx nb fp r sE sT s s ∧ PL s (k + 1))
      case first =>
        by_cases h0 : kind = 0
        · subst h0
          have hcy := cnt_look hP.out key
          go_wp2_with fail
          refine (Av.near_get hJ4.near key).mono ?_
          rintro e w5 ⟨cs, fp5, rfl, hr5, hn5, hw5⟩
          have hJ5 := hJ4.stepN hn5 hw5
          obtain ⟨y, hy⟩ : ∃ y, y = (lookE s.es key).getD V.zero := ⟨_, rfl⟩
          rw [← hy] at hr5 hcy
          obtain ⟨a5, cap5, css5, rfl, _⟩ := hr5.out
          rw [cells6_array]
          have g2 := hw5.1.cell q2 nbN
          have hl5 : b8 < w5.heap.size := World.block_lt_of_cell? w5 ⟨b8, 2, none⟩ g2
          obtain ⟨w6, hw6⟩ : ∃ w6, w6 = w5.alloc (.cells #[.int .i64 y.kind, .string y.text, .int .i64 y.int, .float .f64 y.real, .bool y.flag, .slice a5 y.list.length cap5] 44) := ⟨_, rfl⟩
          have hb6 : Below w5.heap.size w5 w6 := by rw [hw6]; exact (Below.refl _ _).alloc (Nat.le_refl _) _
          have hbx : ∀ j u, [Value.int .i64 y.kind, .string y.text, .int .i64 y.int, .float .f64 y.real, .bool y.flag, .slice a5 y.list.length cap5][j]? = some u → w6.cell? ⟨w5.heap.size, j, none⟩ = some u := fun j u hj => by rw [hw6, World.cell?_alloc_new]; simpa using hj
          have hJ6 := hJ5.below hb6
          have nx : w5.heap.size ∉ rfp r sE sT := fun hm => by have := (hJ5.rn.lt _ hm).2; omega
          have hsz45 := hw5.1.size
          replace hw6 := Lib.hid hw6
          replace hr5 := Lib.hid hr5
          replace hy := Lib.hid hy
          replace hbx := Lib.hid hbx
          clear hn5
          go_wp2_with fail
          rw [← hw6.out]
          refine (ref_get hJ6.rn key (by omega) hnd.out.1).mono ?_
          rintro e w7 ⟨cs2, rfl, hr7, sE7, hn7, hw7, _⟩
          have hJ7 := hJ6.stepR hn7 hw7
          rw [← hy.out] at hr7
          obtain ⟨a7, cap7, css7, rfl, _⟩ := hr7.out
          rw [cells6_array]
          have x0 := hw7.1.cell (hbx.out 0 _ rfl) nx
          have x1 := hw7.1.cell (hbx.out 1 _ rfl) nx
          have x2 := hw7.1.cell (hbx.out 2 _ rfl) nx
          have x3 := hw7.1.cell (hbx.out 3 _ rfl) nx
          have x4 := hw7.1.cell (hbx.out 4 _ rfl) nx
          have x5 := hw7.1.cell (hbx.out 5 _ rfl) nx
          have hlx : w5.heap.size < w7.heap.size := World.block_lt_of_cell? w7 ⟨w5.heap.size, 0, none⟩ x0
          have hry : RV w7.cell? (cells6 y.kind y.text y.int y.real y.flag a5 y.list.length cap5) y := hr5.out.mono (fun ad u hu => by
            obtain ⟨k1, k2⟩ := newer_cell hu
            exact hw7.1.cell (cell_below hb6 _ _ k1) (fun hm => by have := (hJ4.rn.lt _ hm).2; omega))
          have hab := (Below.refl w7.heap.size w7).alloc (Nat.le_refl _) (.cells #[.int .i64 y.kind, .string y.text, .int .i64 y.int, .float .f64 y.real, .bool y.flag, .slice a7 y.list.length cap7] 44)
          have hry8 := hry.mono (cell_below hab)
          have hrz8 := (hr7.mono (cell_below hJ7.bel)).mono (cell_below hab)
          have hJ8 := hJ7.below hab
          obtain ⟨q, hq⟩ : ∃ q, q = (lookE s.es key).isSome := ⟨_, rfl⟩
          rw [← hq]
          replace hry8 := Lib.hid hry8
          replace hrz8 := Lib.hid hrz8
          replace hJ8 := Lib.hid hJ8
          replace hr7 := Lib.hid hr7
          replace hry := Lib.hid hry
          replace hq := Lib.hid hq
          replace hbx := Lib.hid hbx
          clear hab hw7 hn7 hw5 hb6
          cases q
          all_goals
            go_wp2_with fail
            refine (same03_any y y _ _ _ _ _ _ _ hry8.out hrz8.out hcy).mono ?_
            rintro e w9 ⟨b, rfl, hb, hb9⟩
            obtain rfl : b = true := hb.2 rfl
            have hJ9 := hJ8.out.below hb9
            replace hb := Lib.hid hb
            clear x0 x1 x2 x3 x4 x5
            go_wp2
            go_meet
            exact ⟨fp5, sE7, sT, s.get key, rfl, hJ9, hP.out.get key⟩
        have t0 : (kind == 0) = false := by simp [h0]
        by_cases h1 : kind = 1
        · subst h1
          have hl0 := hP.out.last0
          have hlk := hP.out.lastk
          have hS0 : w4.drew.cell? ⟨b8, 2, none⟩ = some (.string key) := q2
          have hJd := hJ4.below ((Below.refl _ _).drew)
          replace hS0 := Lib.hid hS0
          go_wp2_with fail
          go_region_held3 ((fun w' => w'.cell? ⟨b8, 2, none⟩ = some (.string key))) (first | (with_reducible assumption) | exact hS0.out)
            (first
              | ((go_at_call 28; refine (Av.near_begin hJd.near (by omega) hl0 key).mono ?_; rintro e w5 ⟨rfl, hn5, hw5⟩; have hJ5 := hJd.stepN hn5 hw5; have g5 := (hw5.1.cell hS0.out nbN)))
              | ((go_at_call 39; refine (ref_begin hJ5.rn key ⟨hl0, by omega⟩ (by omega)).mono ?_; rintro e w6 ⟨rfl, sT6, hn6, hw6, _⟩; have hJ6 := hJ5.stepR hn6 hw6; have g6 := (hw6.1.cell g5 nbR))))
          all_goals
            go_wp2
            go_meet
            exact ⟨fp, sE, sT6, s.begin key, by simp, hJ6, hP.out.begin key⟩
        have t1 : (kind == 1) = false := by simp [h1]
        by_cases h2 : kind = 2
        · subst h2
          have hS0 : w4.drew.cell? ⟨b8, 1, none⟩ = some (.int .i64 N) ∧ w4.drew.cell? ⟨b8, 3, none⟩ = some (.int .i64 v.kind) ∧ w4.drew.cell? ⟨b8, 4, none⟩ = some (.string v.text) ∧ w4.drew.cell? ⟨b8, 5, none⟩ = some (.int .i64 v.int) ∧ w4.drew.cell? ⟨b8, 6, none⟩ = some (.float .f64 v.real) ∧ w4.drew.cell? ⟨b8, 7, none⟩ = some (.bool v.flag) ∧ w4.drew.cell? ⟨b8, 8, none⟩ = some (.slice va v.list.length vcap) := ⟨q1, q3, q4, q5, q6, q7, q8⟩
          have hJd := hJ4.below ((Below.refl _ _).drew)
          replace hS0 := Lib.hid hS0
          go_wp2_with fail
          go_region_held3 ((fun w' => w'.cell? ⟨b8, 1, none⟩ = some (.int .i64 N) ∧ w'.cell? ⟨b8, 3, none⟩ = some (.int .i64 v.kind) ∧ w'.cell? ⟨b8, 4, none⟩ = some (.string v.text) ∧ w'.cell? ⟨b8, 5, none⟩ = some (.int .i64 v.int) ∧ w'.cell? ⟨b8, 6, none⟩ = some (.float .f64 v.real) ∧ w'.cell? ⟨b8, 7, none⟩ = some (.bool v.flag) ∧ w'.cell? ⟨b8, 8, none⟩ = some (.slice va v.list.length vcap))) (first | (with_reducible assumption) | exact hS0.out)
            (first
              | ((go_at_call 27; refine (Av.near_fill hJd.near N (v := v) (a := va) (cap := vcap) (hrv.out.mono (cell_below hJd.bel)) hcnt.out).mono ?_; rintro e w5 ⟨fp5, rfl, hn5, hw5⟩; have hJ5 := hJd.stepN hn5 hw5; have g5 := keep7 hw5.1 nbN hS0.out))
              | ((go_at_call 40; refine (ref_fill hJ5.rn N (tv := v) (va := va) (vc := vcap) hrv.out (by omega) (by omega) hnd.out.1 hnd.out.2).mono ?_; rintro e w6 ⟨rfl, sE6, sT6, hn6, hw6, _⟩; have hJ6 := hJ5.stepR hn6 hw6; have g6 := keep7 hw6.1 nbR g5)))
          all_goals
            go_wp2
            go_meet
            exact ⟨fp5, sE6, sT6, s.fill N v, by simp, hJ6, hP.out.fill N v hcnt.out⟩
        have t2 : (kind == 2) = false := by simp [h2]
        by_cases h3 : kind = 3
        · subst h3
          have hS0 : w4.drew.cell? ⟨b8, 2, none⟩ = some (.string key) := q2
          have hJd := hJ4.below ((Below.refl _ _).drew)
          have hdk := drop_is s key
          replace hdk := Lib.hid hdk
          replace hS0 := Lib.hid hS0
          go_wp2_with fail
          go_region_held3 ((fun w' => w'.cell? ⟨b8, 2, none⟩ = some (.string key))) (first | (with_reducible assumption) | exact hS0.out)
            (first
              | ((go_at_call 32; refine (Av.near_drop hJd.near key).mono ?_; rintro e w5 ⟨fp5, rfl, hn5, hw5⟩; rw [hdk.out]; have hJ5 := hJd.stepN hn5 hw5; have g5 := (hw5.1.cell hS0.out nbN)))
              | ((go_at_call 41; refine (ref_drop hJ5.rn key (by omega) (by omega) hnd.out.1).mono ?_; rintro e w6 ⟨rfl, sE6, sT6, hn6, hw6, _⟩; have hJ6 := hJ5.stepR hn6 hw6; have g6 := (hw6.1.cell g5 nbR))))
          all_goals
            go_wp2
            go_meet
            exact ⟨fp5, sE6, sT6, s.drop key, by simp, hJ6, hP.out.drop key⟩
        have t3 : (kind == 3) = false := by simp [h3]
        by_cases h4 : kind = 4
        · subst h4
          clear q0 q1 q2 q3 q4 q5 q6 q7 q8
          go_wp2_with fail
          refine (Av.near_clear hJ4.near).mono ?_
          rintro e w5 ⟨fp5, rfl, hn5, hw5⟩
          have hJ5 := hJ4.stepN hn5 hw5
          go_wp2_with fail
          refine (ref_clear hJ5.rn).mono ?_
          rintro e w6 ⟨rfl, hn6, hw6, _⟩
          have hJ6 := hJ5.stepR hn6 hw6
          go_wp2
          go_meet
          exact ⟨fp5, _, _, s.clear, rfl, hJ6, hP.out.clear⟩
        have t4 : (kind == 4) = false := by simp [h4]
        have hcy := cnt_look hP.out key
        go_wp2_with fail
        refine (Av.near_peek hJ4.near key).mono ?_
        rintro e w5 ⟨cs, rfl, hr5, hb5⟩
        have hJ5 := hJ4.below hb5
        have hw5 : Went w4 fp w5 fp := Went.of_below hb5
        obtain ⟨y, hy⟩ : ∃ y, y = (lookE s.es key).getD V.zero := ⟨_, rfl⟩
        rw [← hy] at hr5 hcy
        obtain ⟨a5, cap5, css5, rfl, _⟩ := hr5.out
        rw [cells6_array]
        have g2 := hw5.1.cell q2 nbN
        have hl5 : b8 < w5.heap.size := World.block_lt_of_cell? w5 ⟨b8, 2, none⟩ g2
        obtain ⟨w6, hw6⟩ : ∃ w6, w6 = w5.alloc (.cells #[.int .i64 y.kind, .string y.text, .int .i64 y.int, .float .f64 y.real, .bool y.flag, .slice a5 y.list.length cap5] 44) := ⟨_, rfl⟩
        have hb6 : Below w5.heap.size w5 w6 := by rw [hw6]; exact (Below.refl _ _).alloc (Nat.le_refl _) _
        have hbx : ∀ j u, [Value.int .i64 y.kind, .string y.text, .int .i64 y.int, .float .f64 y.real, .bool y.flag, .slice a5 y.list.length cap5][j]? = some u → w6.cell? ⟨w5.heap.size, j, none⟩ = some u := fun j u hj => by rw [hw6, World.cell?_alloc_new]; simpa using hj
        have hJ6 := hJ5.below hb6
        have nx : w5.heap.size ∉ rfp r sE sT := fun hm => by have := (hJ5.rn.lt _ hm).2; omega
        have hsz45 := hw5.1.size
        replace hw6 := Lib.hid hw6
        replace hr5 := Lib.hid hr5
        replace hy := Lib.hid hy
        replace hbx := Lib.hid hbx
        clear hb5
        go_wp2_with fail
        rw [← hw6.out]
        refine (ref_peek hJ6.rn key (by omega)).mono ?_
        rintro e w7 ⟨cs2, rfl, hr7, hb7⟩
        have hJ7 := hJ6.below hb7
        have hw7 : Went w6 (rfp r sE sT) w7 (rfp r sE sT) := Went.of_below hb7
        rw [← hy.out] at hr7
        obtain ⟨a7, cap7, css7, rfl, _⟩ := hr7.out
        rw [cells6_array]
        have x0 := hw7.1.cell (hbx.out 0 _ rfl) nx
        have x1 := hw7.1.cell (hbx.out 1 _ rfl) nx
        have x2 := hw7.1.cell (hbx.out 2 _ rfl) nx
        have x3 := hw7.1.cell (hbx.out 3 _ rfl) nx
        have x4 := hw7.1.cell (hbx.out 4 _ rfl) nx
        have x5 := hw7.1.cell (hbx.out 5 _ rfl) nx
        have hlx : w5.heap.size < w7.heap.size := World.block_lt_of_cell? w7 ⟨w5.heap.size, 0, none⟩ x0
        have hry : RV w7.cell? (cells6 y.kind y.text y.int y.real y.flag a5 y.list.length cap5) y := hr5.out.mono (fun ad u hu => by
          obtain ⟨k1, k2⟩ := newer_cell hu
          exact hw7.1.cell (cell_below hb6 _ _ k1) (fun hm => by have := (hJ4.rn.lt _ hm).2; omega))
        have hab := (Below.refl w7.heap.size w7).alloc (Nat.le_refl _) (.cells #[.int .i64 y.kind, .string y.text, .int .i64 y.int, .float .f64 y.real, .bool y.flag, .slice a7 y.list.length cap7] 44)
        have hry8 := hry.mono (cell_below hab)
        have hrz8 := (hr7.mono (cell_below hJ7.bel)).mono (cell_below hab)
        have hJ8 := hJ7.below hab
        obtain ⟨q, hq⟩ : ∃ q, q = (lookE s.es key).isSome := ⟨_, rfl⟩
        rw [← hq]
        replace hry8 := Lib.hid hry8
        replace hrz8 := Lib.hid hrz8
        replace hJ8 := Lib.hid hJ8
        replace hr7 := Lib.hid hr7
        replace hry := Lib.hid hry
        replace hq := Lib.hid hq
        replace hbx := Lib.hid hbx
        clear hab hw7 hb7 hw5 hb6
        cases q
        all_goals
          go_wp2_with fail
          refine (same03_any y y _ _ _ _ _ _ _ hry8.out hrz8.out hcy).mono ?_
          rintro e w9 ⟨b, rfl, hb, hb9⟩
          obtain rfl : b = true := hb.2 rfl
          have hJ9 := hJ8.out.below hb9
          replace hb := Lib.hid hb
          clear x0 x1 x2 x3 x4 x5
          go_wp2
          go_meet
          exact ⟨fp, sE, sT, s, rfl, hJ9, hP.out.next⟩
      case rest =>
        rename World => wx
        obtain ⟨fp6, sE6, sT6, s6, rfl, hJ6, hP6⟩ := hcut
        clear hJ4 q0 q1 q2 q3 q4 q5 q6 q7 q8 nbN nbR hnd hrv4 hP hwl
        have he6 := hP6.es
        have ht6 := hP6.ts
        have c0 := hJ6.rn.c0
        have c1 := hJ6.rn.c1
        have hrl := hJ6.rn.blk.lt
        obtain ⟨css6, e1, e2⟩ := hJ6.rn.es
        obtain ⟨ae, ce, rfl⟩ := (Reads.of_owns e2).shape
        obtain ⟨at6, ct, rfl⟩ := (Reads.of_owns hJ6.rn.ts).shape
        have hkl : s6.keys.length ≤ 1000000000 := by rw [NS.keys, List.length_map]; omega
        replace hP6 := Lib.hid hP6
        clear e1 e2
        go_wp2_with fail
        go_region_held3 (fun w' => Below (wx).heap.size (wx) w' ∧ ∀ b o, b < (wx).heap.size → w'.cell? ⟨b, o, none⟩ = (wx).cell? ⟨b, o, none⟩) (first | assumption | exact kp_drew | exact kp_keep2 (by assumption) (by assumption) | exact kp_keep (by assumption) (by assumption) | exact kp_alloc (by assumption) _) ((first
                  | (go_at_call 34; refine (Av.near_len (hJ6.near.below (And.left (by assumption)))).mono ?_; rintro e w7 ⟨rfl, rfl⟩)
                  | (go_at_call 36; refine (Av.near_tickets (hJ6.near.below (And.left (by assumption)))).mono ?_; rintro e w7 ⟨rfl, rfl⟩)
                  | (go_at_call 35; refine (Av.near_keys (hJ6.near.below (And.left (by assumption))) (by omega)).mono ?_; rintro e w7 ⟨v7, rfl, hown7, hb7⟩)
                  | (go_at_call 44; refine (ref_keys (hJ6.rn.below (And.left (by assumption))) (by omega)).mono ?_; rintro e w8 ⟨v8, rfl, hown8, hb8⟩; have hr7 := (Reads.of_owns hown7).below hb8)
                  | (go_at_call 22; obtain ⟨a7, c7, e7⟩ := (Reads.of_owns hown7).shape; obtain ⟨a8, c8, e8⟩ := (Reads.of_owns hown8).shape; subst e7; subst e8; refine (same06_b hr7 (Reads.of_owns hown8) hkl hkl).mono ?_; rintro e w9 ⟨rfl, hb9⟩)))
        all_goals
          have hS := And.left (show Below wx.heap.size wx _ ∧ ∀ b o, b < wx.heap.size → _ from by assumption)
          have hJ7 := hJ6.below hS
          clear hS c0 c1
          go_wp2
          go_roundw
          case rel => exact ⟨k + 1, fp6, _, _, s6, by omega, by go_num, hJ7, hP6.out⟩
          case measure => simp [intOf]; omega
    · clear hx
      go_wp2_with fail
      go_ret
      exact ⟨rfl, hJr.bel⟩
end Go.Proofs.Ytlddjcfbapdjnaa
