/- The layer near: Get, Fill, Clear. -/
import Derived.Test.YtlddjcfbapdjnaaNear
import Derived.Deep.RegionHeld3
import Derived.Deep.QuietTactic
import Derived.BigQuiet
namespace Go.Proofs.Ytlddjcfbapdjnaa
open Go.RowKit

theorem put_perm {es : List (ByteArray × V)} {k : ByteArray} {v : V} (hn : (es.map (·.1)).Nodup) (hm : (k, v) ∈ es) : es.Perm (putE es k v) := by
  obtain ⟨a, b, rfl⟩ := List.append_of_mem hm
  have e : (a ++ (k, v) :: b).filter (fun p => p.1 ≠ k) = a ++ b := by
    rw [List.map_append, List.map_cons, List.nodup_append] at hn
    obtain ⟨_, h2, h3⟩ := hn
    rw [List.nodup_cons] at h2
    rw [List.filter_append, List.filter_cons, if_neg (by simp), List.filter_eq_self.2, List.filter_eq_self.2]
    · intro p hp; have : p.1 ≠ k := fun e => h2.1 (by rw [← e]; exact List.mem_map.2 ⟨p, hp, rfl⟩); simpa using this
    · intro p hp; have : p.1 ≠ k := h3 p.1 (List.mem_map.2 ⟨p, hp, rfl⟩) k (by simp); simpa using this
  rw [putE, e, List.append_assoc]
  exact List.Perm.append_left _ (List.perm_append_singleton _ _).symm

theorem NStr.reorder {w : World} {nb rb m vb tb : Nat} {ns fp : List Nat} {ks : List ByteArray} {s : NS} (h : NStr w nb rb m vb tb ns fp ks s) {es' : List (ByteArray × V)} (hp : s.es.Perm es') : NStr w nb rb m vb tb ns fp ks { s with es := es' } :=
  ⟨h.efp, h.c0, h.c1, h.c2, h.c3, h.c4, h.blk, h.rc, h.vals.perm hp, h.tix, h.apart, h.nv, h.nt, h.vt, h.tlt, h.most0⟩
abbrev agg6 (v : V) (a : Option Addr) (cap : Nat) : List Value := [.int .i64 v.kind, .string v.text, .int .i64 v.int, .float .f64 v.real, .bool v.flag, .slice a v.list.length cap]
abbrev zero6 : List Value := [.int .i64 0, .string ⟨#[]⟩, .int .i64 0, .float .f64 0, .bool false, .slice none 0 0]

/-- The map of values is as it was. -/
def Kept (w w' : World) (nb : Nat) : Prop := ∀ vb, w.cell? ⟨nb, 1, none⟩ = some (.map (some vb)) → vb < w.heap.size → w'.cell? ⟨nb, 1, none⟩ = some (.map (some vb)) ∧ w'.heap[vb]? = w.heap[vb]?
theorem Kept.of_below {w w' : World} {nb : Nat} (h : Below w.heap.size w w') : Kept w w' nb := fun vb hc hv => ⟨cell_below h _ _ hc, h.block vb hv⟩
theorem near_getK {w : World} {nb : Nat} {fp : List Nat} {s : NS} (h : Near w nb fp s) (k : ByteArray) :
    Calls Try.prog 29 #[P0 nb, .string k] w fun e w' => ∃ (cs : List Value) (fp' : List Nat), e = .returned (.tuple #[.agg cs.toArray, .bool (lookE s.es k).isSome]) ∧ RV (newer w.heap.size w') cs ((lookE s.es k).getD V.zero) ∧
      Near w' nb fp' (s.get k) ∧ Went w fp w' fp' ∧ Kept w w' nb ∧ Writ (w.heap.size + 1) w' cs ∧ ∀ ad n c, cs[5]? = some (.slice (some ad) n c) → ad.block ∉ fp' := by
  obtain ⟨W1, hW1⟩ : ∃ W1, W1 = w.alloc (.cells #[.int .i64 0, .string ⟨#[]⟩, .int .i64 0, .float .f64 0, .bool false, .slice none 0 0] 44) := ⟨_, rfl⟩
  have hb1 : Below w.heap.size w W1 := by rw [hW1]; exact (Below.refl _ _).alloc (Nat.le_refl _) _
  have hs1 : W1.heap.size = w.heap.size + 1 := by rw [hW1]; simp
  have hC : ∀ q u, #[.int .i64 0, .string ⟨#[]⟩, .int .i64 0, .float .f64 0, .bool false, .slice none 0 0][q]? = some u → W1.cell? ⟨w.heap.size, q, none⟩ = some u := fun q u h => by rw [hW1, World.cell?_alloc_new]; exact h
  have hfC : Blk W1 w.heap.size := by rw [hW1]; exact Blk.new w _ _
  have h1 := h.below hb1
  replace hb1 := Lib.hid hb1
  replace hC := Lib.hid hC
  replace hW1 := Lib.hid hW1
  replace hs1 := Lib.hid hs1
  replace h := Lib.hid h
  go_enter Try.func29, Try.ntmps29
  go_wp2_with fail
  rw [← hW1.out]
  refine (near_peekK h1 k).mono ?_
  rintro e w2 ⟨cs, rfl, hr, hb2, hwr⟩
  obtain ⟨a, cap, css, rfl, _⟩ := hr.out
  rw [cells6_array]
  have g0 := cell_below hb2 _ _ (hC.out 0 _ rfl)
  have g1 := cell_below hb2 _ _ (hC.out 1 _ rfl)
  have g2 := cell_below hb2 _ _ (hC.out 2 _ rfl)
  have g3 := cell_below hb2 _ _ (hC.out 3 _ rfl)
  have g4 := cell_below hb2 _ _ (hC.out 4 _ rfl)
  have g5 := cell_below hb2 _ _ (hC.out 5 _ rfl)
  have fC := hfC.of_block (hb2.block _ (by rw [hs1.out]; omega))
  have hbw : Below w.heap.size w w2 := hb1.out.trans (hb2.mono (by rw [hs1.out]; omega))
  have hs2 : w.heap.size + 1 ≤ w2.heap.size := by rw [← hs1.out]; exact hb2.size
  have h2 := h1.below hb2
  -- whatever has come between: the block of the call's own holds noughts yet, and the value's box what it held
  have hlt := h.out.lt
  have fin : ∀ (v : V), (lookE s.es k).getD V.zero = v → ∀ (w4 : World), Fr (· ∈ fp) (w2.alloc (.cells #[.int .i64 v.kind, .string v.text, .int .i64 v.int, .float .f64 v.real, .bool v.flag, .slice a v.list.length cap] 44)) w4 →
      w4.rangeAt w2.heap.size 0 (agg6 v a cap) ∧ w4.rangeAt w.heap.size 0 zero6 ∧ w4.there w.heap.size 0 6 ∧
      (w4.setCells w.heap.size 0 (agg6 v a cap)).rangeAt w.heap.size 0 (agg6 v a cap) ∧ RV (newer w.heap.size (w4.setCells w.heap.size 0 (agg6 v a cap))) (cells6 v.kind v.text v.int v.real v.flag a v.list.length cap) v ∧
      Fr (fun b => b = w.heap.size) w4 (w4.setCells w.heap.size 0 (agg6 v a cap)) := by
    rintro v rfl w4 hf4
    have n0 : w.heap.size ∉ fp := fun h => by have := hlt _ h; omega
    have n2 : w2.heap.size ∉ fp := fun h => by have := hlt _ h; omega
    have ab : ∀ o : Obj, Below w2.heap.size w2 (w2.alloc o) := fun o => (Below.refl _ _).alloc (Nat.le_refl _) _
    have k0 : w4.rangeAt w.heap.size 0 zero6 := range6 (hf4.cell (cell_below (ab _) _ _ g0) n0) (hf4.cell (cell_below (ab _) _ _ g1) n0) (hf4.cell (cell_below (ab _) _ _ g2) n0) (hf4.cell (cell_below (ab _) _ _ g3) n0) (hf4.cell (cell_below (ab _) _ _ g4) n0) (hf4.cell (cell_below (ab _) _ _ g5) n0)
    have k2 : w4.rangeAt w2.heap.size 0 (agg6 ((lookE s.es k).getD V.zero) a cap) := range6 (hf4.cell (by simp) n2) (hf4.cell (by simp) n2) (hf4.cell (by simp) n2) (hf4.cell (by simp) n2) (hf4.cell (by simp) n2) (hf4.cell (by simp) n2)
    have kb : Blk w4 w.heap.size := (fC.fr (S := fun _ => False) ((Fr.refl _ _).alloc _) (fun h => h)).fr hf4 n0
    have kt := there_of (n := 6) k0 kb rfl
    have kf : Fr (fun b => b = w.heap.size) w4 (w4.setCells w.heap.size 0 (agg6 ((lookE s.es k).getD V.zero) a cap)) := Fr.setCells (S := fun b => b = w.heap.size) (fun _ => rfl) _ _ _ (Fr.refl _ w4)
    refine ⟨k2, k0, kt, World.rangeAt_setCells_same _ _ _ _ kt, ?_, kf⟩
    refine hr.mono (fun ad u h => ?_)
    obtain ⟨h1, h2⟩ := newer_cell h
    rw [hs1.out] at h2
    unfold newer
    rw [if_neg (by omega)]
    exact kf.cell (hf4.cell (cell_below (ab _) _ _ h1) (fun h => by have := hlt _ h; omega)) (by show ¬ ad.block = _; omega)
  clear g0 g1 g2 g3 g4 g5
  have hzl : lookE s.es k = none → s.get k = s := fun e => by simp [NS.get, e]
  have hsl : (lookE s.es k).isSome = true → s.get k = { s with es := putE s.es k ((lookE s.es k).getD V.zero) } ∧ (k, (lookE s.es k).getD V.zero) ∈ s.es := fun e => by
    obtain ⟨v, hv⟩ := Option.isSome_iff_exists.1 e
    have h1 := lookE_mem hv
    simp [NS.get, hv, h1, putE]
  generalize hv : (lookE s.es k).getD V.zero = v at *
  replace fin := Lib.hid (fin v rfl)
  replace hr := Lib.hid hr
  replace hv := Lib.hid hv
  replace hwr := Lib.hid hwr
  cases hlk : lookE s.es k with
  | none =>
    obtain ⟨r1, r2, r3, r4, r5, r6⟩ := fin.out _ (Fr.refl _ _)
    have hg := hzl hlk
    replace hg := Lib.hid hg
    replace r1 := Lib.hid r1
    replace r2 := Lib.hid r2
    replace r3 := Lib.hid r3
    replace r4 := Lib.hid r4
    clear h1 hzl hsl
    go_wp2_with (first
      | (refine wpList_load_mid rfl 44 _ rfl w2.heap.size 0 rfl _ _ r1.out Try.underlying44 rfl infoVal ?_)
      | (refine wpList_store_mid rfl 44 _ _ rfl w.heap.size 0 _ rfl rfl r3.out infoVal (one6 _ _ _ _ _ _ _ _) ?_))
    refine bodyPost_ret (results_cell2 (v := .agg #[.int .i64 v.kind, .string v.text, .int .i64 v.int, .float .f64 v.real, .bool v.flag, .slice a v.list.length cap]) rfl rfl (run_loadVar_mid (P := Try.prog) _ _ 0 44 _ _ r4.out Try.underlying44 rfl infoVal)) rfl ⟨cells6 v.kind v.text v.int v.real v.flag a v.list.length cap, fp, by rw [hlk]; rfl, by rw [hv.out]; exact r5, ?_⟩
    have hbe : Below w.heap.size w (w2.alloc (.cells #[.int .i64 v.kind, .string v.text, .int .i64 v.int, .float .f64 v.real, .bool v.flag, .slice a v.list.length cap] 44) |>.setCells w.heap.size 0 (agg6 v a cap)) :=
      (hbw.alloc hbw.size _).trans (r6.below (by simp; omega) (fun i hi h => by omega))
    rw [hg.out]
    exact ⟨h.out.below hbe, Went.of_below hbe, Kept.of_below hbe, fun ad n c he => by
      obtain ⟨q1, q2, q3⟩ := hwr.out ad n c he
      have hsz := hs1.out
      exact ⟨q1, by omega, (q3.of_block (((Below.refl w2.heap.size w2).alloc (Nat.le_refl _) _).block _ q3.lt)).fr r6 (fun h => by omega)⟩, fun ad n c he hm => by
      obtain ⟨q1, q2, q3⟩ := hwr.out ad n c he
      have hsz := hs1.out
      have := hlt _ hm
      omega⟩
  | some v' =>
    obtain ⟨e1, e2⟩ := hsl (by rw [hlk]; rfl)
    replace e1 := Lib.hid e1
    obtain ⟨rb, m, vb, tb, ns, hN⟩ := h.out
    obtain ⟨W3, hW3⟩ : ∃ W3, W3 = w2.alloc (.cells #[.int .i64 v.kind, .string v.text, .int .i64 v.int, .float .f64 v.real, .bool v.flag, .slice a v.list.length cap] 44) := ⟨_, rfl⟩
    have hb3 : Below w.heap.size w W3 := by rw [hW3]; exact hbw.alloc hbw.size _
    have hs3 : W3.heap.size = w2.heap.size + 1 := by rw [hW3]; simp
    have hN3 := hN.below hb3
    have q0 := hN3.c0
    have hrc := hN3.rc
    have hput := put_perm hN.vals.nodup e2
    replace hput := Lib.hid hput
    replace hN := Lib.hid hN
    replace hN3 := Lib.hid hN3
    replace hb3 := Lib.hid hb3
    rw [← hW3] at fin
    rw [hW3] at q0
    replace hW3 := Lib.hid hW3
    clear h1 hzl hsl h2 e2
    go_wp2_with fail
    rw [← hW3.out]
    refine (touch_any hrc k).mono ?_
    rintro e w4 ⟨rfl, ns', hrc', hf4, hn4⟩
    have hfp : ∀ b, b ∈ rb :: m :: ns → b ∈ fp := fun b hb => by rw [hN.out.efp]; simp at hb ⊢; rcases hb with h | h | h <;> simp [h]
    obtain ⟨r1, r2, r3, r4, r5, r6⟩ := fin.out w4 (hf4.mono (fun b _ hb => hfp b hb))
    replace r1 := Lib.hid r1
    replace r2 := Lib.hid r2
    replace r3 := Lib.hid r3
    replace r4 := Lib.hid r4
    replace hrc' := Lib.hid hrc'
    clear hrc q0
    go_wp2_with (first
      | (refine wpList_load_mid rfl 44 _ rfl w2.heap.size 0 rfl _ _ r1.out Try.underlying44 rfl infoVal ?_)
      | (refine wpList_store_mid rfl 44 _ _ rfl w.heap.size 0 _ rfl rfl r3.out infoVal (one6 _ _ _ _ _ _ _ _) ?_))
    have hnew : ∀ b ∈ m :: ns', b ∈ m :: ns ∨ w2.heap.size + 1 ≤ b := fun b hb => by
      rcases List.mem_cons.1 hb with rfl | hb
      · simp
      · rcases hn4 b hb with h | h
        · simp [h]
        · rw [hs3] at h; exact Or.inr h
    have hrc5 := hrc'.out.fr r6 (fun b hb e => by
      have hb' : b = rb ∨ b ∈ m :: ns' := by simpa using hb
      rcases hb' with h | h
      · have := hlt b (hfp b (by simp [h])); omega
      · rcases hnew b h with h | h
        · have := hlt b (hfp b (List.mem_cons_of_mem _ h)); omega
        · omega)
    have hf5 : Fr (· ∈ rb :: m :: ns) w (w4.setCells w.heap.size 0 (agg6 v a cap)) := (((Fr.of_below hb3.out).mono (fun i hi h => absurd h (by omega))).trans hf4).trans_new r6 (fun i hi h => absurd h (by omega))
    obtain ⟨fp', hn5, hw5, hw6⟩ := hN.out.ring hrc5 hf5 (fun b hb => by
      rcases hnew b hb with h | h
      · exact Or.inl h
      · exact Or.inr (by omega))
    refine bodyPost_ret (results_cell2 (v := .agg #[.int .i64 v.kind, .string v.text, .int .i64 v.int, .float .f64 v.real, .bool v.flag, .slice a v.list.length cap]) rfl rfl (run_loadVar_mid (P := Try.prog) _ _ 0 44 _ _ r4.out Try.underlying44 rfl infoVal)) rfl ⟨cells6 v.kind v.text v.int v.real v.flag a v.list.length cap, fp', by rw [hlk]; rfl, by rw [hv.out]; exact r5, ⟨rb, m, vb, tb, ns', ?_⟩, ⟨hw5, hw6⟩, fun vb' hc hv' => ?_, fun ad n c he => ?_, fun ad n c he hm => ?_⟩
    · rw [e1.out]
      have := hn5.reorder hput.out
      rw [show touch s.keys k = NS.keys { s with es := putE s.es k v } from (keys_put s.es k v).symm] at this
      exact this
    · have h1 := hN.out.c1
      rw [hc] at h1
      cases h1
      exact ⟨hn5.c1, hf5.block _ hv' (hN.out.apart _ (by simp))⟩
    · obtain ⟨q1, q2, q3⟩ := hwr.out ad n c he
      have hsz := hs1.out
      refine ⟨q1, by omega, ((q3.of_block (w' := W3) (by rw [hW3.out]; exact ((Below.refl w2.heap.size w2).alloc (Nat.le_refl _) _).block _ q3.lt)).fr hf4 (fun h => by have := hlt _ (hfp _ h); omega)).fr r6 (fun h => by omega)⟩
    · obtain ⟨q1, q2, q3⟩ := hwr.out ad n c he
      have hsz := hs1.out
      have hlt3 := q3.lt
      rw [hn5.efp] at hm
      have h5 := fun b (hb : b ∈ nb :: rb :: vb :: tb :: []) => hlt b (by rw [hN.out.efp]; simp at hb ⊢; rcases hb with h | h | h | h <;> simp [h])
      have hm' : ad.block ∈ nb :: rb :: vb :: tb :: [] ∨ ad.block ∈ m :: ns' := by
        simp only [List.mem_cons] at hm ⊢
        rcases hm with h | h | h | h | h | h <;> simp [h]
      rcases hm' with h | h
      · have := h5 _ h; omega
      · rcases hnew _ h with h | h
        · have := hlt _ (hfp _ (List.mem_cons_of_mem _ h)); omega
        · omega
theorem near_get {w : World} {nb : Nat} {fp : List Nat} {s : NS} (h : Near w nb fp s) (k : ByteArray) :
    Calls Try.prog 29 #[P0 nb, .string k] w fun e w' => ∃ (cs : List Value) (fp' : List Nat), e = .returned (.tuple #[.agg cs.toArray, .bool (lookE s.es k).isSome]) ∧ RV (newer w.heap.size w') cs ((lookE s.es k).getD V.zero) ∧
      Near w' nb fp' (s.get k) ∧ Went w fp w' fp' := (near_getK h k).mono fun e w' ⟨cs, fp', h1, h2, h3, h4, _, _, _⟩ => ⟨cs, fp', h1, h2, h3, h4⟩

theorem oldest_touch (ks : List ByteArray) (k : ByteArray) : oldest k (touch ks k) = match ks.filter (fun x => x ≠ k) with | [] => (ByteArray.empty, false) | x :: _ => (x, true) := by
  rw [touch]
  cases h : ks.filter (fun x => x ≠ k) with
  | nil => simp [oldest]
  | cons x l =>
    have : x ∈ ks.filter (fun x => x ≠ k) := by rw [h]; simp
    have := (List.mem_filter.1 this).2
    simp at this
    simp [oldest, this]
theorem filter_head {es : List (ByteArray × V)} {p : ByteArray × V} {r : List (ByteArray × V)} (hn : (es.map (·.1)).Nodup) (h : es = p :: r) : es.filter (fun q => q.1 ≠ p.1) = r := by
  subst h
  rw [List.map_cons, List.nodup_cons] at hn
  rw [List.filter_cons, if_neg (by simp), List.filter_eq_self.2]
  intro q hq
  have : q.1 ≠ p.1 := fun e => hn.1 (by rw [← e]; exact List.mem_map.2 ⟨q, hq, rfl⟩)
  simpa using this
theorem NStr.drewN {w : World} {nb rb m vb tb : Nat} {ns fp : List Nat} {ks : List ByteArray} {s : NS} (h : NStr w nb rb m vb tb ns fp ks s) (n : Nat) : NStr (w.drewN n) nb rb m vb tb ns fp ks s :=
  h.below (Below.drewN (Below.refl _ _))

theorem AMap.ncell {κ : Type} [DecidableEq κ] {K : KeyEmb κ} {w : World} {m : Nat} {l : List (κ × Value)} (h : AMap K w m l) {a : Addr} {u : Value} (hc : w.cell? a = some u) : m ≠ a.block := by
  obtain ⟨es, c, hm, _⟩ := h.held
  obtain ⟨cs, t, f, hb⟩ := cells_of_cell hc
  intro e
  rw [e, hb] at hm
  cases hm
theorem near_fill_no {w : World} {nb : Nat} {fp : List Nat} {s : NS} (h : Near w nb fp s) (t : Int) {a : Option Addr} {cap : Nat} {v : V} (hno : s.fills t = false) :
    Calls Try.prog 27 #[P0 nb, .int .i64 t, .agg #[.int .i64 v.kind, .string v.text, .int .i64 v.int, .float .f64 v.real, .bool v.flag, .slice a v.list.length cap]] w fun e w' => e = .returned (.bool false) ∧ Near w' nb fp (s.without t) ∧ Went w fp w' fp := by
  obtain ⟨W1, hW1⟩ : ∃ W1, W1 = w.alloc (.cells #[.int .i64 v.kind, .string v.text, .int .i64 v.int, .float .f64 v.real, .bool v.flag, .slice a v.list.length cap] 44) := ⟨_, rfl⟩
  have hb1 : Below w.heap.size w W1 := by rw [hW1]; exact (Below.refl _ _).alloc (Nat.le_refl _) _
  replace h := h.below hb1
  obtain ⟨rb, m, vb, tb, ns, h⟩ := h
  have h2 := h.c2
  have hlook := h.tix.look t
  obtain ⟨o, hdel, ho⟩ := h.tix.del t
  obtain ⟨hn2, hf2⟩ := h.settix ho (fun p hp => h.tlt p (List.mem_filter.1 hp).1)
  have h4 := hn2.c4
  have h2' := hn2.c2
  rw [hW1] at h2 hlook hdel h4 h2'
  have hfin : Went w fp (setB W1 tb o) fp := (Went.of_below hb1).trans ⟨hf2, fun _ h => Or.inl h⟩
  simp only [NS.fills, Bool.and_eq_false_iff, decide_eq_false_iff_not, Decidable.not_not] at hno
  replace hn2 := Lib.hid hn2
  replace hfin := Lib.hid hfin
  replace hW1 := Lib.hid hW1
  replace hb1 := Lib.hid hb1
  cases hl : lookT s.ts t with
  | none =>
    rw [hl] at hlook hno
    clear h hf2 ho hno hl
    go_enter Try.func27, Try.ntmps27
    go_wp2
    go_ret
    rw [← hW1.out]
    exact ⟨rfl, ⟨_, _, _, _, _, hn2.out⟩, hfin.out⟩
  | some k =>
    rw [hl] at hlook hno
    simp only [Option.isSome_some, Bool.true_eq_false, false_or] at hno
    rw [hno] at h4
    clear h hf2 ho hno hl
    go_enter Try.func27, Try.ntmps27
    go_wp2
    go_ret
    rw [← hW1.out]
    exact ⟨rfl, ⟨_, _, _, _, _, hn2.out⟩, hfin.out⟩

set_option maxHeartbeats 1600000 in
theorem near_fill_yes {w : World} {nb : Nat} {fp : List Nat} {s : NS} (h : Near w nb fp s) (t : Int) {a : Option Addr} {cap : Nat} {v : V} {k : ByteArray} (hl : lookT s.ts t = some k) (hmost : s.most ≠ 0)
    (hv : RV w.cell? (cells6 v.kind v.text v.int v.real v.flag a v.list.length cap) v) (hc : v.count ≤ 100000000) :
    Calls Try.prog 27 #[P0 nb, .int .i64 t, .agg #[.int .i64 v.kind, .string v.text, .int .i64 v.int, .float .f64 v.real, .bool v.flag, .slice a v.list.length cap]] w fun e w' => ∃ fp', e = .returned (.bool true) ∧ Near w' nb fp' ((s.without t).put k v) ∧ Went w fp w' fp' := by
  obtain ⟨W1, hW1⟩ : ∃ W1, W1 = w.alloc (.cells #[.int .i64 v.kind, .string v.text, .int .i64 v.int, .float .f64 v.real, .bool v.flag, .slice a v.list.length cap] 44) := ⟨_, rfl⟩
  have hb1 : Below w.heap.size w W1 := by rw [hW1]; exact (Below.refl _ _).alloc (Nat.le_refl _) _
  have hlt := h.lt
  have hn0 : w.heap.size ∉ fp := fun hm => by have := hlt _ hm; omega
  replace h := h.below hb1
  obtain ⟨rb, m, vb, tb, ns, h⟩ := h
  have h2 := h.c2
  have hlook := h.tix.look t
  rw [hl] at hlook
  obtain ⟨o, hdel, ho⟩ := h.tix.del t
  obtain ⟨hn2, hf2⟩ := h.settix ho (fun p hp => h.tlt p (List.mem_filter.1 hp).1)
  have hs2 : (setB W1 tb o).heap.size = w.heap.size + 1 := by rw [hW1]; simp [Proofs.Ytlddjcfbapdjnaa.setB]
  obtain ⟨W2, hW2⟩ : ∃ W2, W2 = setB W1 tb o := ⟨_, rfl⟩
  rw [← hW2] at hn2 hf2 hs2
  have hB : ∀ q u, #[.int .i64 v.kind, .string v.text, .int .i64 v.int, .float .f64 v.real, .bool v.flag, .slice a v.list.length cap][q]? = some u → W2.cell? ⟨w.heap.size, q, none⟩ = some u := fun q u h => hf2.cell (by rw [hW1, World.cell?_alloc_new]; exact h) hn0
  have hfin : Went w fp W2 fp := (Went.of_below hb1).trans ⟨hf2, fun _ h => Or.inl h⟩
  have h4 := hn2.c4
  have h1 := hn2.c1
  have hv2 : RV W2.cell? (cells6 v.kind v.text v.int v.real v.flag a v.list.length cap) v := hv.mono (fun ad u hu => by
    have hu1 := cell_below hb1 _ _ hu
    obtain ⟨l, hl1, _⟩ := h.tix
    rw [hW2, setB_cell (hl1.ncell hu1)]; exact hu1)
  simp only at h4
  have hBd : ∀ q u, #[.int .i64 v.kind, .string v.text, .int .i64 v.int, .float .f64 v.real, .bool v.flag, .slice a v.list.length cap][q]? = some u → W2.drew.cell? ⟨w.heap.size, q, none⟩ = some u := hB
  have h4' := h4
  rw [hW2, hW1] at h4
  rw [hW1] at h2 hlook hdel
  have hve : vb ≠ w.heap.size := fun e => hn0 (e ▸ by rw [h.efp]; simp)
  have hd1 : W2.drew.cell? ⟨nb, 1, none⟩ = some (.map (some vb)) := h1
  have hnv := hn2.nv
  have hbS : ∀ w', Below W2.drew.heap.size W2.drew w' → (w'.cell? ⟨nb, 1, none⟩ = some (.map (some vb)) ∧ w'.cell? ⟨w.heap.size, 0, none⟩ = some (.int .i64 v.kind) ∧ w'.cell? ⟨w.heap.size, 1, none⟩ = some (.string v.text) ∧ w'.cell? ⟨w.heap.size, 2, none⟩ = some (.int .i64 v.int) ∧
      w'.cell? ⟨w.heap.size, 3, none⟩ = some (.float .f64 v.real) ∧ w'.cell? ⟨w.heap.size, 4, none⟩ = some (.bool v.flag) ∧ w'.cell? ⟨w.heap.size, 5, none⟩ = some (.slice a v.list.length cap)) := fun w' hb =>
    ⟨cell_below hb _ _ hd1, cell_below hb _ _ (hBd 0 _ rfl), cell_below hb _ _ (hBd 1 _ rfl), cell_below hb _ _ (hBd 2 _ rfl), cell_below hb _ _ (hBd 3 _ rfl), cell_below hb _ _ (hBd 4 _ rfl), cell_below hb _ _ (hBd 5 _ rfl)⟩
  have hbS2 : ∀ w' o, Below W2.drew.heap.size W2.drew w' → ((setB w' vb o).cell? ⟨nb, 1, none⟩ = some (.map (some vb)) ∧ (setB w' vb o).cell? ⟨w.heap.size, 0, none⟩ = some (.int .i64 v.kind) ∧ (setB w' vb o).cell? ⟨w.heap.size, 1, none⟩ = some (.string v.text) ∧ (setB w' vb o).cell? ⟨w.heap.size, 2, none⟩ = some (.int .i64 v.int) ∧
      (setB w' vb o).cell? ⟨w.heap.size, 3, none⟩ = some (.float .f64 v.real) ∧ (setB w' vb o).cell? ⟨w.heap.size, 4, none⟩ = some (.bool v.flag) ∧ (setB w' vb o).cell? ⟨w.heap.size, 5, none⟩ = some (.slice a v.list.length cap)) := fun w' o hb => by
    have k1 : ∀ q u, w'.cell? ⟨w.heap.size, q, none⟩ = some u → (setB w' vb o).cell? ⟨w.heap.size, q, none⟩ = some u := fun q u h => by rw [setB_cell (show vb ≠ (⟨w.heap.size, q, none⟩ : Addr).block from hve)]; exact h
    obtain ⟨q0, q1, q2, q3, q4, q5, q6⟩ := hbS w' hb
    exact ⟨by rw [setB_cell (show vb ≠ (⟨nb, 1, none⟩ : Addr).block from fun e => hnv e.symm)]; exact q0, k1 _ _ q1, k1 _ _ q2, k1 _ _ q3, k1 _ _ q4, k1 _ _ q5, k1 _ _ q6⟩
  replace hn2 := Lib.hid hn2
  replace hfin := Lib.hid hfin
  replace hW1 := Lib.hid hW1
  replace hW2 := Lib.hid hW2
  replace hb1 := Lib.hid hb1
  replace hv2 := Lib.hid hv2
  replace hc := Lib.hid hc
  have hn2d := Lib.hid (hn2.out.fr (w' := W2.drew) (S := fun _ => False) ((Fr.refl _ _).drew) (fun _ _ h => h) (fun a u h => h))
  have hlt2 := Lib.hid hn2.out.lt
  have hS0 := hbS W2.drew (Below.refl _ _)
  replace hbS := Lib.hid hbS
  replace hbS2 := Lib.hid hbS2
  clear h hf2 ho hl hB hBd
  go_enter Try.func27, Try.ntmps27
  go_wp2
  rw [← hW1.out, ← hW2.out]
  go_region_held3 (fun w' => w'.cell? ⟨nb, 1, none⟩ = some (.map (some vb)) ∧ w'.cell? ⟨w.heap.size, 0, none⟩ = some (.int .i64 v.kind) ∧ w'.cell? ⟨w.heap.size, 1, none⟩ = some (.string v.text) ∧ w'.cell? ⟨w.heap.size, 2, none⟩ = some (.int .i64 v.int) ∧
      w'.cell? ⟨w.heap.size, 3, none⟩ = some (.float .f64 v.real) ∧ w'.cell? ⟨w.heap.size, 4, none⟩ = some (.bool v.flag) ∧ w'.cell? ⟨w.heap.size, 5, none⟩ = some (.slice a v.list.length cap))
    (first | exact hS0 | exact hbS.out _ (by assumption) | exact hbS2.out _ _ (by assumption))
    (first
      | (go_at_call 48; refine (copy_any v _ _ _ _ _ _ _ _ W2.drew (hv2.out.mono (fun a u h => h)) hc.out).mono ?_; rintro e w3 ⟨a', cap', rfl, hr, hb3⟩; obtain ⟨o3, hrun, ho3⟩ := (hn2d.out.below hb3).vals.put k (cells6 v.kind v.text v.int v.real v.flag a' v.list.length cap'); rw [cells6_array] at hrun))
  have hnd := hn2.out.vals.nodup
  have hn3 := (hn2d.out.below hb3).setvals (fun W fp' hW hm => ho3 W fp' v hW hm ((hr.mono (newer_off (fun b hb => hlt2.out b hb))).mono hm) hc.out)
  have hfin3 : Went w fp (setB w3 vb o3) fp := (hfin.out.trans (Went.of_below ((Below.refl _ _).drew.trans hb3))).trans ⟨hn3.2, fun _ h => Or.inl h⟩
  replace hn3 := hn3.1
  have d0 := hn3.c0
  have hrc := hn3.rc
  replace hn3 := Lib.hid hn3
  replace hfin3 := Lib.hid hfin3
  replace hnd := Lib.hid hnd
  clear hS0 hd1 hrun ho3 hlook hdel h4 h4' h1 h2
  go_wp2_with fail
  refine (touch_any hrc k).mono ?_
  rintro e w4 ⟨rfl, ns', hrc', hf4, hnew4⟩
  obtain ⟨fp4, hn4, hw4, hw4'⟩ := hn3.out.ring hrc' hf4 (fun b hb => by
    rcases List.mem_cons.1 hb with rfl | hb
    · simp
    · rcases hnew4 b hb with h | h
      · simp [h]
      · exact Or.inr h)
  have hfin4 : Went w fp w4 fp4 := hfin3.out.trans ⟨hw4, hw4'⟩
  have e0 := hn4.c0
  replace hn4 := Lib.hid hn4
  replace hfin4 := Lib.hid hfin4
  clear d0 hrc hf4 hw4 hw4' hnew4
  go_wp2_with fail
  refine (oldest_any hrc' k).mono ?_
  rintro e w5 ⟨rfl, n5, rfl⟩
  rw [oldest_touch]
  clear hrc' e0
  have hn5 := hn4.out.drewN n5
  have hfin5 : Went w fp (w4.drewN n5) fp4 := hfin4.out.trans (Went.of_below (Below.drewN (Below.refl _ _)))
  have c4 := hn5.c4
  have hks : touch s.keys k = NS.keys { (s.without t) with es := putE s.es k v } := (keys_put s.es k v).symm
  rw [hks] at hn5
  clear hks hn4 hfin4
  generalize w4.drewN n5 = w5 at *
  have hm0 := hn5.most0
  have hlen := fun n => near_len (⟨_, _, _, _, _, hn5.drewN n⟩ : Near (w5.drewN n) nb fp4 _)
  have hpl : (putE s.es k v).length = (s.keys.filter (fun x => x ≠ k)).length + 1 := by
    have h1 := congrArg List.length (keys_put s.es k v)
    simp only [List.length_map, touch, List.length_append, List.length_singleton] at h1
    exact h1
  simp only at c4 hm0
  replace hn5 := Lib.hid hn5
  replace hfin5 := Lib.hid hfin5
  have hmost1 : 0 < s.most := by have : (NS.most { (s.without t) with es := putE s.es k v }) = s.most := rfl; omega
  have hput : (s.without t).put k v = { (s.without t) with es := if s.most < (putE s.es k v).length then (putE s.es k v).tail else putE s.es k v } := rfl
  replace hput := Lib.hid hput
  cases hf : s.keys.filter (fun x => x ≠ k) with
  | nil =>
    rw [hf] at hpl
    have hle : ¬ s.most < ((putE s.es k v).length : Int) := by rw [hpl]; simp; omega
    replace hle := Lib.hid hle
    replace hpl := Lib.hid hpl
    replace hf := Lib.hid hf
    go_wp2
    go_quiet ((go_at_call 34; exact Calls.quiet_of_same (hlen _)))
    go_wp2
    go_ret
    rw [hput.out, if_neg (Int.not_lt.2 hle.out)]
    exact ⟨fp4, rfl, ⟨_, _, _, _, _, hn5.out.drewN _⟩, hfin5.out.trans (Went.of_below (Below.drewN (Below.refl _ _)))⟩
  | cons x rest =>
    obtain ⟨p, r, hpr, hpx⟩ : ∃ p r, putE s.es k v = p :: r ∧ p.1 = x := by
      have h1 := keys_put s.es k v
      rw [touch, show (s.es.map (·.1)).filter (fun x => x ≠ k) = x :: rest from hf] at h1
      cases hp : putE s.es k v with
      | nil => rw [hp] at h1; cases h1
      | cons p r => rw [hp] at h1; simp at h1; exact ⟨p, r, rfl, h1.1⟩
    have hnd5 := hn5.out.vals.nodup
    have hfh := filter_head hnd5 hpr
    rw [hpx] at hfh
    replace hpl := Lib.hid hpl
    replace hf := Lib.hid hf
    replace hfh := Lib.hid hfh
    replace hpr := Lib.hid hpr
    replace hnd5 := Lib.hid hnd5
    have hcl : ((putE s.es k v).length : Int) = (NS.es { (s.without t) with es := putE s.es k v }).length := rfl
    by_cases hlt5 : s.most < ((putE s.es k v).length : Int)
    · go_wp2
      go_quiet ((go_at_call 34; exact Calls.quiet_of_same (hlen _)))
      go_wp2_with fail
      refine (near_forget (hn5.out.drewN _) x).mono ?_
      rintro e w6 ⟨rfl, fp6, hn6, hw6⟩
      clear hlen c4
      replace hn6 := Lib.hid hn6
      go_wp2
      go_ret
      refine ⟨fp6, rfl, ?_, (hfin5.out.trans (Went.of_below (Below.drewN (Below.refl _ _)))).trans hw6⟩
      rw [hput.out, if_pos hlt5, hpr.out]
      have := hn6.out
      simp only [hfh.out] at this
      exact this
    · go_wp2
      go_quiet ((go_at_call 34; exact Calls.quiet_of_same (hlen _)))
      go_wp2
      go_ret
      rw [hput.out, if_neg (Int.not_lt.2 hlt5)]
      exact ⟨fp4, rfl, ⟨_, _, _, _, _, hn5.out.drewN _⟩, hfin5.out.trans (Went.of_below (Below.drewN (Below.refl _ _)))⟩

theorem near_fill {w : World} {nb : Nat} {fp : List Nat} {s : NS} (h : Near w nb fp s) (t : Int) {a : Option Addr} {cap : Nat} {v : V}
    (hv : RV w.cell? (cells6 v.kind v.text v.int v.real v.flag a v.list.length cap) v) (hc : v.count ≤ 100000000) :
    Calls Try.prog 27 #[P0 nb, .int .i64 t, .agg #[.int .i64 v.kind, .string v.text, .int .i64 v.int, .float .f64 v.real, .bool v.flag, .slice a v.list.length cap]] w fun e w' => ∃ fp', e = .returned (.bool (s.fills t)) ∧ Near w' nb fp' (s.fill t v) ∧ Went w fp w' fp' := by
  by_cases hf : s.fills t = false
  · refine (near_fill_no h t hf).mono ?_
    rintro e w' ⟨rfl, h1, h2⟩
    refine ⟨fp, by rw [hf], ?_, h2⟩
    simp only [NS.fills, Bool.and_eq_false_iff, decide_eq_false_iff_not, Decidable.not_not] at hf
    cases hl : lookT s.ts t with
    | none => simpa [NS.fill, hl] using h1
    | some k => rw [hl] at hf; simp at hf; simpa [NS.fill, hl, hf] using h1
  · simp only [Bool.not_eq_false] at hf
    have hf0 := hf
    simp only [NS.fills, Bool.and_eq_true, decide_eq_true_eq] at hf
    obtain ⟨k, hl⟩ := Option.isSome_iff_exists.1 hf.1
    refine (near_fill_yes h t hl hf.2 hv hc).mono ?_
    rintro e w' ⟨fp', rfl, h1, h2⟩
    refine ⟨fp', by rw [hf0], ?_, h2⟩
    simpa [NS.fill, hl, hf.2] using h1
end Go.Proofs.Ytlddjcfbapdjnaa
