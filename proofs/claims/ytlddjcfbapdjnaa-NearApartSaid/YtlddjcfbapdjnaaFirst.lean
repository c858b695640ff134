/- The first value that is filled in: it lies apart from whatever was there. -/
import Derived.Test.YtlddjcfbapdjnaaNearB
namespace Go.Proofs.Ytlddjcfbapdjnaa
open Go.RowKit

theorem vals_nil {w : World} {vb : Nat} {fp : List Nat} {es : List (ByteArray × V)} (h : Vals w vb fp es) (he : es = []) : Vals w vb (List.range w.heap.size) [] := by
  subst he
  obtain ⟨l, h1, h2, _⟩ := h
  exact ⟨l, h1, h2, fun p hp => by cases hp⟩
theorem off_none {fp' : List Nat} {W : World} (w : World) : ∀ a u, off (List.range w.heap.size) w a = some u → off fp' W a = some u := fun a u h => by
  obtain ⟨h1, h2⟩ := off_cell h
  exact absurd (List.mem_range.2 (World.block_lt_of_cell? _ _ h1)) h2
theorem vals_drewN {w : World} {vb : Nat} {fp : List Nat} {es : List (ByteArray × V)} (h : Vals w vb fp es) (n : Nat) : Vals (w.drewN n) vb fp es :=
  h.of_block (by simp) (fun a u h => by unfold off at h ⊢; simpa using h)

set_option maxHeartbeats 1600000 in
theorem near_fill_first {w : World} {nb : Nat} {fp : List Nat} {s : NS} (h : Near w nb fp s) (t : Int) {a : Option Addr} {cap : Nat} {v : V} {k : ByteArray} (hl : lookT s.ts t = some k) (hmost : s.most ≠ 0) (hes : s.es = [])
    (hv : RV w.cell? (cells6 v.kind v.text v.int v.real v.flag a v.list.length cap) v) (hc : v.count ≤ 100000000) :
    Calls Try.prog 27 #[P0 nb, .int .i64 t, .agg #[.int .i64 v.kind, .string v.text, .int .i64 v.int, .float .f64 v.real, .bool v.flag, .slice a v.list.length cap]] w fun e w' => ∃ fp', e = .returned (.bool true) ∧ Near w' nb fp' { (s.without t) with es := [(k, v)] } ∧ Went w fp w' fp' ∧ ∃ vb, w'.cell? ⟨nb, 1, none⟩ = some (.map (some vb)) ∧ Vals w' vb (List.range w.heap.size ++ fp') [(k, v)] := by
  have hpe : putE s.es k v = [(k, v)] := by rw [hes]; rfl
  replace hes := Lib.hid hes
  replace hpe := Lib.hid hpe
  obtain ⟨W1, hW1⟩ : ∃ W1, W1 = w.alloc (.cells #[.int .i64 v.kind, .string v.text, .int .i64 v.int, .float .f64 v.real, .bool v.flag, .slice a v.list.length cap] 44) := ⟨_, rfl⟩
  have hb1 : Below w.heap.size w W1 := by rw [hW1]; exact (Below.refl _ _).alloc (Nat.le_refl _) _
  have hlt := h.lt
  have hn0 : w.heap.size ∉ fp := fun hm => by have := hlt _ hm; omega
  replace h := h.below hb1
  obtain ⟨rb, m, vb, tb, ns, h⟩ := h
  have h2 := h.c2
  have hlook := h.tix.look t
  rw [hl] at hlook
  obtain ⟨o, hdel, ho⟩ := h.tix.del t
  obtain ⟨hn2, hf2⟩ := h.settix ho (fun p hp => h.tlt p (List.mem_filter.1 hp).1)
  have hs2 : (setB W1 tb o).heap.size = w.heap.size + 1 := by rw [hW1]; simp [Proofs.Ytlddjcfbapdjnaa.setB]
  obtain ⟨W2, hW2⟩ : ∃ W2, W2 = setB W1 tb o := ⟨_, rfl⟩
  rw [← hW2] at hn2 hf2 hs2
  have hB : ∀ q u, #[.int .i64 v.kind, .string v.text, .int .i64 v.int, .float .f64 v.real, .bool v.flag, .slice a v.list.length cap][q]? = some u → W2.cell? ⟨w.heap.size, q, none⟩ = some u := fun q u h => hf2.cell (by rw [hW1, World.cell?_alloc_new]; exact h) hn0
  have hfin : Went w fp W2 fp := (Went.of_below hb1).trans ⟨hf2, fun _ h => Or.inl h⟩
  have h4 := hn2.c4
  have h1 := hn2.c1
  have hv2 : RV W2.cell? (cells6 v.kind v.text v.int v.real v.flag a v.list.length cap) v := hv.mono (fun ad u hu => by
    have hu1 := cell_below hb1 _ _ hu
    obtain ⟨l, hl1, _⟩ := h.tix
    rw [hW2, setB_cell (hl1.ncell hu1)]; exact hu1)
  simp only at h4
  have hBd : ∀ q u, #[.int .i64 v.kind, .string v.text, .int .i64 v.int, .float .f64 v.real, .bool v.flag, .slice a v.list.length cap][q]? = some u → W2.drew.cell? ⟨w.heap.size, q, none⟩ = some u := hB
  have h4' := h4
  rw [hW2, hW1] at h4
  rw [hW1] at h2 hlook hdel
  have hve : vb ≠ w.heap.size := fun e => hn0 (e ▸ by rw [h.efp]; simp)
  have hd1 : W2.drew.cell? ⟨nb, 1, none⟩ = some (.map (some vb)) := h1
  have hnv := hn2.nv
  have hbS : ∀ w', Below W2.drew.heap.size W2.drew w' → (w'.cell? ⟨nb, 1, none⟩ = some (.map (some vb)) ∧ w'.cell? ⟨w.heap.size, 0, none⟩ = some (.int .i64 v.kind) ∧ w'.cell? ⟨w.heap.size, 1, none⟩ = some (.string v.text) ∧ w'.cell? ⟨w.heap.size, 2, none⟩ = some (.int .i64 v.int) ∧
      w'.cell? ⟨w.heap.size, 3, none⟩ = some (.float .f64 v.real) ∧ w'.cell? ⟨w.heap.size, 4, none⟩ = some (.bool v.flag) ∧ w'.cell? ⟨w.heap.size, 5, none⟩ = some (.slice a v.list.length cap)) := fun w' hb =>
    ⟨cell_below hb _ _ hd1, cell_below hb _ _ (hBd 0 _ rfl), cell_below hb _ _ (hBd 1 _ rfl), cell_below hb _ _ (hBd 2 _ rfl), cell_below hb _ _ (hBd 3 _ rfl), cell_below hb _ _ (hBd 4 _ rfl), cell_below hb _ _ (hBd 5 _ rfl)⟩
  have hbS2 : ∀ w' o, Below W2.drew.heap.size W2.drew w' → ((setB w' vb o).cell? ⟨nb, 1, none⟩ = some (.map (some vb)) ∧ (setB w' vb o).cell? ⟨w.heap.size, 0, none⟩ = some (.int .i64 v.kind) ∧ (setB w' vb o).cell? ⟨w.heap.size, 1, none⟩ = some (.string v.text) ∧ (setB w' vb o).cell? ⟨w.heap.size, 2, none⟩ = some (.int .i64 v.int) ∧
      (setB w' vb o).cell? ⟨w.heap.size, 3, none⟩ = some (.float .f64 v.real) ∧ (setB w' vb o).cell? ⟨w.heap.size, 4, none⟩ = some (.bool v.flag) ∧ (setB w' vb o).cell? ⟨w.heap.size, 5, none⟩ = some (.slice a v.list.length cap)) := fun w' o hb => by
    have k1 : ∀ q u, w'.cell? ⟨w.heap.size, q, none⟩ = some u → (setB w' vb o).cell? ⟨w.heap.size, q, none⟩ = some u := fun q u h => by rw [setB_cell (show vb ≠ (⟨w.heap.size, q, none⟩ : Addr).block from hve)]; exact h
    obtain ⟨q0, q1, q2, q3, q4, q5, q6⟩ := hbS w' hb
    exact ⟨by rw [setB_cell (show vb ≠ (⟨nb, 1, none⟩ : Addr).block from fun e => hnv e.symm)]; exact q0, k1 _ _ q1, k1 _ _ q2, k1 _ _ q3, k1 _ _ q4, k1 _ _ q5, k1 _ _ q6⟩
  replace hn2 := Lib.hid hn2
  replace hfin := Lib.hid hfin
  replace hW1 := Lib.hid hW1
  replace hW2 := Lib.hid hW2
  replace hb1 := Lib.hid hb1
  replace hv2 := Lib.hid hv2
  replace hc := Lib.hid hc
  have hn2d := Lib.hid (hn2.out.fr (w' := W2.drew) (S := fun _ => False) ((Fr.refl _ _).drew) (fun _ _ h => h) (fun a u h => h))
  have hlt2 := Lib.hid hn2.out.lt
  have hS0 := hbS W2.drew (Below.refl _ _)
  replace hbS := Lib.hid hbS
  replace hbS2 := Lib.hid hbS2
  clear h hf2 ho hl hB hBd
  go_enter Try.func27, Try.ntmps27
  go_wp2
  rw [← hW1.out, ← hW2.out]
  go_region_held3 (fun w' => w'.cell? ⟨nb, 1, none⟩ = some (.map (some vb)) ∧ w'.cell? ⟨w.heap.size, 0, none⟩ = some (.int .i64 v.kind) ∧ w'.cell? ⟨w.heap.size, 1, none⟩ = some (.string v.text) ∧ w'.cell? ⟨w.heap.size, 2, none⟩ = some (.int .i64 v.int) ∧
      w'.cell? ⟨w.heap.size, 3, none⟩ = some (.float .f64 v.real) ∧ w'.cell? ⟨w.heap.size, 4, none⟩ = some (.bool v.flag) ∧ w'.cell? ⟨w.heap.size, 5, none⟩ = some (.slice a v.list.length cap))
    (first | exact hS0 | exact hbS.out _ (by assumption) | exact hbS2.out _ _ (by assumption))
    (first
      | (go_at_call 48; refine (copy_any v _ _ _ _ _ _ _ _ W2.drew (hv2.out.mono (fun a u h => h)) hc.out).mono ?_; rintro e w3 ⟨a', cap', rfl, hr, hb3⟩; obtain ⟨o3, hrun, ho3⟩ := (vals_nil (hn2d.out.below hb3).vals hes.out).put k (cells6 v.kind v.text v.int v.real v.flag a' v.list.length cap'); rw [cells6_array] at hrun))
  have hnd := hn2.out.vals.nodup
  have hvx : vb ∉ rb :: m :: ns := hn2.out.apart vb (by simp)
  have hn3 := (hn2d.out.below hb3).setvals (es' := putE s.es k v) (fun W fp' hW hm => by rw [hpe.out]; exact ho3 W fp' v hW (off_none _) ((hr.mono (newer_off (fun b hb => hlt2.out b hb))).mono hm) hc.out)
  have hX3 : Vals (setB w3 vb o3) vb (List.range w.heap.size ++ fp) [(k, v)] := ho3 _ _ v (setB_at o3 (hn2d.out.below hb3).vals.lt) (off_none _) (hr.mono (fun a u h => by
    obtain ⟨q1, q2⟩ := newer_cell h
    have q3 := hlt2.out
    unfold off
    have hsz : w.heap.size ≤ W2.drew.heap.size := Nat.le_trans hb1.out.size (by rw [hW2.out]; show _ ≤ (setB W1 tb o).heap.size; simp [Proofs.Ytlddjcfbapdjnaa.setB])
    rw [if_neg (fun hm => by
      rcases List.mem_append.1 hm with h | h
      · have := List.mem_range.1 h; omega
      · have := q3 _ h; have : W2.heap.size ≤ a.block := q2; omega)]
    rw [setB_cell (fun e => by
      have := (hn2d.out).vals.lt
      have : W2.heap.size ≤ a.block := q2
      have hh : vb < W2.heap.size := (hn2d.out).vals.lt
      omega)]
    exact q1)) hc.out
  replace hX3 := Lib.hid hX3
  have hfin3 : Went w fp (setB w3 vb o3) fp := (hfin.out.trans (Went.of_below ((Below.refl _ _).drew.trans hb3))).trans ⟨hn3.2, fun _ h => Or.inl h⟩
  replace hn3 := hn3.1
  have d0 := hn3.c0
  have hrc := hn3.rc
  replace hn3 := Lib.hid hn3
  replace hfin3 := Lib.hid hfin3
  replace hnd := Lib.hid hnd
  clear hS0 hd1 hrun ho3 hlook hdel h4 h4' h1 h2
  go_wp2_with fail
  refine (touch_any hrc k).mono ?_
  rintro e w4 ⟨rfl, ns', hrc', hf4, hnew4⟩
  obtain ⟨fp4, hn4, hw4, hw4'⟩ := hn3.out.ring hrc' hf4 (fun b hb => by
    rcases List.mem_cons.1 hb with rfl | hb
    · simp
    · rcases hnew4 b hb with h | h
      · simp [h]
      · exact Or.inr h)
  have hfin4 : Went w fp w4 fp4 := hfin3.out.trans ⟨hw4, hw4'⟩
  have hX4 : Vals w4 vb (List.range w.heap.size ++ fp4) [(k, v)] := hX3.out.of_block (hf4.block vb hX3.out.lt hvx) (off_fr (hw4.mono (fun b _ hb => List.mem_append_right _ hb)) (fun b hb => by
    rcases List.mem_append.1 hb with h | h
    · exact Or.inl (List.mem_append_left _ h)
    · rcases hw4' b h with h | h
      · exact Or.inl (List.mem_append_right _ h)
      · exact Or.inr h))
  replace hX4 := Lib.hid hX4
  have e0 := hn4.c0
  replace hn4 := Lib.hid hn4
  replace hfin4 := Lib.hid hfin4
  clear d0 hrc hf4 hw4 hw4' hnew4
  go_wp2_with fail
  refine (oldest_any hrc' k).mono ?_
  rintro e w5 ⟨rfl, n5, rfl⟩
  rw [oldest_touch]
  clear hrc' e0
  have hn5 := hn4.out.drewN n5
  have hfin5 : Went w fp (w4.drewN n5) fp4 := hfin4.out.trans (Went.of_below (Below.drewN (Below.refl _ _)))
  have c4 := hn5.c4
  have hks : touch s.keys k = NS.keys { (s.without t) with es := putE s.es k v } := (keys_put s.es k v).symm
  rw [hks] at hn5
  clear hks hn4 hfin4
  have hX5 : Vals (w4.drewN n5) vb (List.range w.heap.size ++ fp4) [(k, v)] := vals_drewN hX4.out n5
  replace hX5 := Lib.hid hX5
  clear hX4 hX3
  generalize w4.drewN n5 = w5 at *
  have hm0 := hn5.most0
  have hlen := fun n => near_len (⟨_, _, _, _, _, hn5.drewN n⟩ : Near (w5.drewN n) nb fp4 _)
  have hpl : (putE s.es k v).length = (s.keys.filter (fun x => x ≠ k)).length + 1 := by
    have h1 := congrArg List.length (keys_put s.es k v)
    simp only [List.length_map, touch, List.length_append, List.length_singleton] at h1
    exact h1
  simp only at c4 hm0
  replace hn5 := Lib.hid hn5
  replace hfin5 := Lib.hid hfin5
  have hmost1 : 0 < s.most := by have : (NS.most { (s.without t) with es := putE s.es k v }) = s.most := rfl; omega
  have hf : s.keys.filter (fun x => x ≠ k) = [] := by rw [NS.keys, hes.out]; rfl
  rw [hf] at hpl
  have hle : ¬ s.most < ((putE s.es k v).length : Int) := by rw [hpl]; simp; omega
  replace hle := Lib.hid hle
  replace hpl := Lib.hid hpl
  rw [hf]
  replace hf := Lib.hid hf
  go_wp2
  go_quiet ((go_at_call 34; exact Calls.quiet_of_same (hlen _)))
  go_wp2
  go_ret
  rw [hpe.out] at hn5
  refine ⟨fp4, rfl, ⟨_, _, _, _, _, hn5.out.drewN _⟩, hfin5.out.trans (Went.of_below (Below.drewN (Below.refl _ _))), vb, (hn5.out.drewN _).c1, vals_drewN hX5.out _⟩
end Go.Proofs.Ytlddjcfbapdjnaa
