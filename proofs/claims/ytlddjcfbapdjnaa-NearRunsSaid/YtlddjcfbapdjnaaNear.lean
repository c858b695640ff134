/- The layer near: its calls that turn nothing. -/
import Derived.Test.YtlddjcfbapdjnaaNearV
namespace Go.Proofs.Ytlddjcfbapdjnaa
open Go.RowKit

structure NStr (w : World) (nb rb m vb tb : Nat) (ns fp : List Nat) (ks : List ByteArray) (s : NS) : Prop where
  efp : fp = nb :: rb :: m :: vb :: tb :: ns
  c0 : w.cell? ⟨nb, 0, none⟩ = some (P0 rb)
  c1 : w.cell? ⟨nb, 1, none⟩ = some (.map (some vb))
  c2 : w.cell? ⟨nb, 2, none⟩ = some (.map (some tb))
  c3 : w.cell? ⟨nb, 3, none⟩ = some (.int .i64 s.last)
  c4 : w.cell? ⟨nb, 4, none⟩ = some (.int .i64 s.most)
  blk : Blk w nb
  rc : Rec w rb m ks ns
  vals : Vals w vb fp s.es
  tix : Tix w tb s.ts
  apart : ∀ b ∈ [nb, vb, tb], b ∉ rb :: m :: ns
  nv : nb ≠ vb
  nt : nb ≠ tb
  vt : vb ≠ tb
  tlt : ∀ p ∈ s.ts, p.1 ≤ s.last
  most0 : 0 ≤ s.most
theorem NStr.lt {w : World} {nb rb m vb tb : Nat} {ns fp : List Nat} {ks : List ByteArray} {s : NS} (h : NStr w nb rb m vb tb ns fp ks s) : ∀ b ∈ fp, b < w.heap.size := fun b hb => by
  rw [h.efp] at hb
  have hr := h.rc.lt
  simp only [List.mem_cons] at hb hr
  rcases hb with rfl | rfl | rfl | rfl | rfl | hb
  · exact h.blk.lt
  · exact hr _ (by simp)
  · exact hr _ (by simp)
  · exact h.vals.lt
  · exact h.tix.lt
  · exact hr _ (by simp [hb])
theorem NStr.fr {w w' : World} {nb rb m vb tb : Nat} {ns fp : List Nat} {ks : List ByteArray} {s : NS} (h : NStr w nb rb m vb tb ns fp ks s) {S : Nat → Prop} (hf : Fr S w w') (hS : ∀ b ∈ fp, ¬ S b) (hr : ∀ a u, off fp w a = some u → off fp w' a = some u) : NStr w' nb rb m vb tb ns fp ks s := by
  have hm := fun b hb => hS b (by rw [h.efp]; exact hb)
  have hn : ¬ S nb := hm _ (by simp)
  exact ⟨h.efp, hf.cell h.c0 hn, hf.cell h.c1 hn, hf.cell h.c2 hn, hf.cell h.c3 hn, hf.cell h.c4 hn, h.blk.fr hf hn, h.rc.fr hf (fun b hb => hm b (by simp at hb ⊢; rcases hb with h | h | h <;> simp [h])),
    h.vals.of_block (hf.block _ h.vals.lt (hm _ (by simp))) hr, h.tix.of_block (hf.block _ h.tix.lt (hm _ (by simp))), h.apart, h.nv, h.nt, h.vt, h.tlt, h.most0⟩
theorem NStr.below {w w' : World} {nb rb m vb tb : Nat} {ns fp : List Nat} {ks : List ByteArray} {s : NS} (h : NStr w nb rb m vb tb ns fp ks s) (hb : Below w.heap.size w w') : NStr w' nb rb m vb tb ns fp ks s :=
  h.fr (Fr.of_below hb) (fun b hb' hle => by have := h.lt b hb'; omega) (off_below hb)
theorem NStr.away {w : World} {nb rb m vb tb : Nat} {ns fp : List Nat} {ks : List ByteArray} {s : NS} (h : NStr w nb rb m vb tb ns fp ks s) {m' : Nat} {ns' : List Nat} (hn : ∀ b ∈ m' :: ns', b ∈ m :: ns ∨ w.heap.size ≤ b) : ∀ b ∈ [nb, vb, tb], b ∉ rb :: m' :: ns' := fun b hb hm => by
  have hlt := h.lt b (by rw [h.efp]; simp at hb ⊢; rcases hb with h | h | h <;> simp [h])
  rcases List.mem_cons.1 hm with e | e
  · exact h.apart b hb (by simp [e])
  · rcases hn b e with h1 | h1
    · exact h.apart b hb (List.mem_cons_of_mem _ h1)
    · omega
theorem NStr.new_fp {w : World} {nb rb m vb tb : Nat} {ns fp : List Nat} {ks : List ByteArray} {s : NS} (h : NStr w nb rb m vb tb ns fp ks s) {m' : Nat} {ns' : List Nat} (hn : ∀ b ∈ m' :: ns', b ∈ m :: ns ∨ w.heap.size ≤ b) : ∀ b ∈ nb :: rb :: m' :: vb :: tb :: ns', b ∈ fp ∨ w.heap.size ≤ b := fun b hb => by
  rw [h.efp]
  have := hn b
  simp only [List.mem_cons] at hb this ⊢
  rcases hb with h | h | h | h | h | h
  · simp [h]
  · simp [h]
  · rcases this (Or.inl h) with (h | h) | h <;> simp [h]
  · simp [h]
  · simp [h]
  · rcases this (Or.inr h) with (h | h) | h <;> simp [h]

theorem NStr.ring {w w' : World} {nb rb m vb tb : Nat} {ns fp : List Nat} {ks : List ByteArray} {s : NS} (h : NStr w nb rb m vb tb ns fp ks s) {m' : Nat} {ns' : List Nat} {ks' : List ByteArray} (hrc : Rec w' rb m' ks' ns') (hf : Fr (· ∈ rb :: m :: ns) w w')
    (hn : ∀ b ∈ m' :: ns', b ∈ m :: ns ∨ w.heap.size ≤ b) : ∃ fp', NStr w' nb rb m' vb tb ns' fp' ks' s ∧ Fr (· ∈ fp) w w' ∧ ∀ b ∈ fp', b ∈ fp ∨ w.heap.size ≤ b := by
  have hf' : Fr (· ∈ fp) w w' := hf.mono (fun b _ hb => by rw [h.efp]; simp at hb ⊢; rcases hb with h | h | h <;> simp [h])
  have hnew := h.new_fp hn
  have ha : nb ∉ rb :: m :: ns ∧ vb ∉ rb :: m :: ns ∧ tb ∉ rb :: m :: ns := ⟨h.apart _ (by simp), h.apart _ (by simp), h.apart _ (by simp)⟩
  exact ⟨_, ⟨rfl, hf.cell h.c0 ha.1, hf.cell h.c1 ha.1, hf.cell h.c2 ha.1, hf.cell h.c3 ha.1, hf.cell h.c4 ha.1, h.blk.fr hf ha.1, hrc, h.vals.of_block (hf.block _ h.vals.lt ha.2.1) (off_fr hf' hnew),
    h.tix.of_block (hf.block _ h.tix.lt ha.2.2), h.away hn, h.nv, h.nt, h.vt, h.tlt, h.most0⟩, hf', hnew⟩
theorem setB_fr {w : World} (b : Nat) (o : Obj) : Fr (· ∈ [b]) w (setB w b o) := (Fr.refl _ w).setB (fun _ => by show b ∈ [b]; simp) o
theorem setB_at {w : World} {b : Nat} (o : Obj) (h : b < w.heap.size) : (setB w b o).heap[b]? = some o := setB_same (x := w.heap[b]) (by simp [h])
theorem NStr.setvals {w : World} {nb rb m vb tb : Nat} {ns fp : List Nat} {ks : List ByteArray} {s : NS} (h : NStr w nb rb m vb tb ns fp ks s) {o : Obj} {es' : List (ByteArray × V)}
    (hv : ∀ W fp', W.heap[vb]? = some o → (∀ a u, off fp w a = some u → off fp' W a = some u) → Vals W vb fp' es') :
    NStr (setB w vb o) nb rb m vb tb ns fp ks { s with es := es' } ∧ Fr (· ∈ fp) w (setB w vb o) := by
  have hf := setB_fr (w := w) vb o
  have hf' : Fr (· ∈ fp) w (setB w vb o) := hf.mono (fun b _ hb => by rw [h.efp]; simp at hb ⊢; simp [hb])
  have hm : ∀ b, b ≠ vb → ¬ b ∈ [vb] := fun b hb hm => hb (by simpa using hm)
  have hn := hm nb h.nv
  have hr : ∀ b ∈ rb :: m :: ns, ¬ b ∈ [vb] := fun b hb => hm b (fun e => h.apart vb (by simp) (e ▸ hb))
  exact ⟨⟨h.efp, hf.cell h.c0 hn, hf.cell h.c1 hn, hf.cell h.c2 hn, hf.cell h.c3 hn, hf.cell h.c4 hn, h.blk.fr hf hn, h.rc.fr hf hr, hv _ _ (setB_at o h.vals.lt) (off_fr hf' (fun b hb => Or.inl hb)),
    h.tix.of_block (hf.block _ h.tix.lt (hm tb h.vt.symm)), h.apart, h.nv, h.nt, h.vt, h.tlt, h.most0⟩, hf'⟩
theorem NStr.settix {w : World} {nb rb m vb tb : Nat} {ns fp : List Nat} {ks : List ByteArray} {s : NS} (h : NStr w nb rb m vb tb ns fp ks s) {o : Obj} {ts' : List (Int × ByteArray)}
    (ht : ∀ W, W.heap[tb]? = some o → Tix W tb ts') (hl : ∀ p ∈ ts', p.1 ≤ s.last) :
    NStr (setB w tb o) nb rb m vb tb ns fp ks { s with ts := ts' } ∧ Fr (· ∈ fp) w (setB w tb o) := by
  have hf := setB_fr (w := w) tb o
  have hf' : Fr (· ∈ fp) w (setB w tb o) := hf.mono (fun b _ hb => by rw [h.efp]; simp at hb ⊢; simp [hb])
  have hm : ∀ b, b ≠ tb → ¬ b ∈ [tb] := fun b hb hm => hb (by simpa using hm)
  have hn := hm nb h.nt
  have hr : ∀ b ∈ rb :: m :: ns, ¬ b ∈ [tb] := fun b hb => hm b (fun e => h.apart tb (by simp) (e ▸ hb))
  exact ⟨⟨h.efp, hf.cell h.c0 hn, hf.cell h.c1 hn, hf.cell h.c2 hn, hf.cell h.c3 hn, hf.cell h.c4 hn, h.blk.fr hf hn, h.rc.fr hf hr,
    h.vals.of_block (hf.block _ h.vals.lt (hm vb h.vt)) (off_fr hf' (fun b hb => Or.inl hb)), ht _ (setB_at o h.tix.lt), h.apart, h.nv, h.nt, h.vt, hl, h.most0⟩, hf'⟩

/-- What a call may turn, and what it leaves. -/
def Went (w : World) (fp : List Nat) (w' : World) (fp' : List Nat) : Prop := Fr (· ∈ fp) w w' ∧ ∀ b ∈ fp', b ∈ fp ∨ w.heap.size ≤ b
theorem Went.refl (w : World) (fp : List Nat) : Went w fp w fp := ⟨Fr.refl _ _, fun _ h => Or.inl h⟩
theorem Went.of_below {w w' : World} {fp : List Nat} (h : Below w.heap.size w w') : Went w fp w' fp := ⟨(Fr.of_below h).mono (fun i hi h => absurd h (by omega)), fun _ h => Or.inl h⟩
theorem Went.trans {w w1 w2 : World} {fp fp1 fp2 : List Nat} (h : Went w fp w1 fp1) (k : Went w1 fp1 w2 fp2) : Went w fp w2 fp2 :=
  ⟨h.1.trans_new k.1 (fun i hi hm => by rcases h.2 i hm with h1 | h1; exact h1; omega), fun b hb => by
    rcases k.2 b hb with h1 | h1
    · exact h.2 b h1
    · have := h.1.size; exact Or.inr (by omega)⟩

/-- The block nb holds what s says; fp: the blocks of its own. -/
def Near (w : World) (nb : Nat) (fp : List Nat) (s : NS) : Prop := ∃ rb m vb tb ns, NStr w nb rb m vb tb ns fp s.keys s
theorem Near.lt {w : World} {nb : Nat} {fp : List Nat} {s : NS} (h : Near w nb fp s) : ∀ b ∈ fp, b < w.heap.size := let ⟨_, _, _, _, _, h⟩ := h; h.lt
theorem Near.below {w w' : World} {nb : Nat} {fp : List Nat} {s : NS} (h : Near w nb fp s) (hb : Below w.heap.size w w') : Near w' nb fp s := let ⟨_, _, _, _, _, h⟩ := h; ⟨_, _, _, _, _, h.below hb⟩

theorem near_len {w : World} {nb : Nat} {fp : List Nat} {s : NS} (h : Near w nb fp s) : Calls Try.prog 34 #[P0 nb] w fun e w' => e = .returned (.int .i64 s.es.length) ∧ w' = w := by
  obtain ⟨rb, m, vb, tb, ns, h⟩ := h
  have h1 := h.c1
  obtain ⟨l, hl, hp, _⟩ := h.vals
  have hlen : l.length = s.es.length := by have := hp.length_eq; simpa using this
  have hrun := fun T => run_len_map (P := Try.prog) hl _ _ _ T Try.underlying82
  rw [hlen] at hrun
  clear h hp hlen hl
  go_enter Try.func34, Try.ntmps34
  go_wp2
  go_ret
  exact ⟨rfl, rfl⟩
theorem near_tickets {w : World} {nb : Nat} {fp : List Nat} {s : NS} (h : Near w nb fp s) : Calls Try.prog 36 #[P0 nb] w fun e w' => e = .returned (.int .i64 s.ts.length) ∧ w' = w := by
  obtain ⟨rb, m, vb, tb, ns, h⟩ := h
  have h1 := h.c2
  obtain ⟨l, hl, hp⟩ := h.tix
  have hlen : l.length = s.ts.length := by have := hp.length_eq; simpa using this
  have hrun := fun T => run_len_map (P := Try.prog) hl _ _ _ T Try.underlying56
  rw [hlen] at hrun
  clear h hp hlen hl
  go_enter Try.func36, Try.ntmps36
  go_wp2
  go_ret
  exact ⟨rfl, rfl⟩
theorem near_keys {w : World} {nb : Nat} {fp : List Nat} {s : NS} (h : Near w nb fp s) (hn : s.es.length ≤ 1000000) :
    Calls Try.prog 35 #[P0 nb] w fun e w' => ∃ v, e = .returned v ∧ w'.ownsRow w.heap.size 9 1 v s.keys.length (s.keys.map Value.string) ∧ Below w.heap.size w w' := by
  obtain ⟨rb, m, vb, tb, ns, h⟩ := h
  have h1 := h.c0
  have hr := h.rc
  have hk : s.keys.length ≤ 1000000 := by simpa [NS.keys] using hn
  clear h
  replace hk := Lib.hid hk
  go_enter Try.func35, Try.ntmps35
  go_wp2_with fail
  refine (all_any hr hk.out).mono ?_
  rintro e w1 ⟨v, rfl, ho, hb⟩
  clear h1 hr
  go_wp2
  go_ret
  exact ⟨v, rfl, ho, hb⟩

theorem near_made {w w1 : World} {r m : Nat} (most : Int) (h0 : 0 ≤ most) (hrec : Rec w1 r m [] []) (hb : Below w.heap.size w w1) (hr : w.heap.size ≤ r) (hm : w.heap.size ≤ m) (W : World)
    (hW : W = ((w1.alloc (.map #[] 0)).alloc (.map #[] 0)).alloc (.cells #[P0 r, .map (some w1.heap.size), .map (some (w1.heap.size + 1)), .int .i64 0, .int .i64 most] 84)) :
    ∃ fp, Near W (w1.heap.size + 1 + 1) fp ⟨[], [], 0, most⟩ ∧ Below w.heap.size w W ∧ ∀ b ∈ fp, w.heap.size ≤ b := by
  obtain ⟨A, hA⟩ : ∃ A, A = w1.alloc (.map #[] 0) := ⟨_, rfl⟩
  obtain ⟨B, hB⟩ : ∃ B, B = A.alloc (.map #[] 0) := ⟨_, rfl⟩
  have sA : A.heap.size = w1.heap.size + 1 := by rw [hA]; simp
  have sB : B.heap.size = w1.heap.size + 1 + 1 := by rw [hB]; simp [sA]
  have bA : Below w1.heap.size w1 A := by rw [hA]; exact (Below.refl _ _).alloc (Nat.le_refl _) _
  have bB : Below A.heap.size A B := by rw [hB]; exact (Below.refl _ _).alloc (Nat.le_refl _) _
  have hW' : W = B.alloc (.cells #[P0 r, .map (some w1.heap.size), .map (some (w1.heap.size + 1)), .int .i64 0, .int .i64 most] 84) := by rw [hW, hB, hA]
  have bW : Below B.heap.size B W := by rw [hW']; exact (Below.refl _ _).alloc (Nat.le_refl _) _
  have b1 : Below w1.heap.size w1 W := bA.trans ((bB.mono (by omega)).trans (bW.mono (by omega)))
  have hc : ∀ o, W.cell? ⟨w1.heap.size + 1 + 1, o, none⟩ = #[P0 r, .map (some w1.heap.size), .map (some (w1.heap.size + 1)), .int .i64 0, .int .i64 most][o]? := fun o => by
    rw [hW', ← sB, World.cell?_alloc_new]
  have m1 : W.heap[w1.heap.size]? = some (.map #[] 0) := by
    rw [bW.block _ (by omega), bB.block _ (by omega), hA]; exact (MapKept.heap_alloc w1 _).1
  have m2 : W.heap[w1.heap.size + 1]? = some (.map #[] 0) := by
    rw [bW.block _ (by omega), hB, ← sA]; exact (MapKept.heap_alloc A _).1
  have hl := hrec.lt
  have lr := hl r (by simp)
  have lm := hl m (by simp)
  have hs := hb.size
  refine ⟨_, ⟨r, m, w1.heap.size, w1.heap.size + 1, [], rfl, by rw [hc]; rfl, by rw [hc]; rfl, by rw [hc]; rfl, by rw [hc]; rfl, by rw [hc]; rfl, ?_, hrec.below b1, ⟨[], ⟨by simp, #[], 0, m1, rfl, by simp, by simp⟩, by simp, by simp⟩,
    ⟨[], ⟨by simp, #[], 0, m2, rfl, by simp, by simp⟩, by simp⟩, ?_, by omega, by omega, by omega, by simp, h0⟩, hb.trans (b1.mono hs), ?_⟩
  · rw [hW', ← sB]; exact Blk.new _ _ _
  · intro b hb' hm'
    simp only [List.mem_cons, List.not_mem_nil, or_false] at hb' hm'
    omega
  · intro b hb'
    simp only [List.mem_cons, List.not_mem_nil, or_false] at hb'
    omega
theorem near_new (most : Int) (w : World) : Calls Try.prog 26 #[.int .i64 most] w fun e w' => ∃ nb fp, e = .returned (P0 nb) ∧ Near w' nb fp ⟨[], [], 0, max most 0⟩ ∧ Below w.heap.size w w' ∧ ∀ b ∈ fp, w.heap.size ≤ b := by
  have hmm := @run_makeMap Try.prog
  by_cases hmost : most < 0
  all_goals
    go_enter Try.func26, Try.ntmps26
    go_wp2_with fail
    refine (new_any w).mono ?_
    rintro e w1 ⟨r, m, rfl, hrec, hb, hr, hm⟩
    replace hrec := Lib.hid hrec
    go_wp2
    go_ret
  · rw [show max most 0 = 0 by omega]
    obtain ⟨fp, h1, h2, h3⟩ := near_made 0 (by omega) hrec.out hb hr hm _ rfl
    exact ⟨_, fp, rfl, h1, h2, h3⟩
  · rw [show max most 0 = most by omega]
    obtain ⟨fp, h1, h2, h3⟩ := near_made most (by omega) hrec.out hb hr hm _ rfl
    exact ⟨_, fp, rfl, h1, h2, h3⟩

/-- The value's list may be written. -/
def Writ (B : Nat) (w : World) (cs : List Value) : Prop := ∀ ad n c, cs[5]? = some (.slice (some ad) n c) → ad = ⟨ad.block, 0, none⟩ ∧ B ≤ ad.block ∧ Blk w ad.block
theorem near_peekK {w : World} {nb : Nat} {fp : List Nat} {s : NS} (h : Near w nb fp s) (k : ByteArray) :
    Calls Try.prog 31 #[P0 nb, .string k] w fun e w' => ∃ cs : List Value, e = .returned (.tuple #[.agg cs.toArray, .bool (lookE s.es k).isSome]) ∧ RV (newer w.heap.size w') cs ((lookE s.es k).getD V.zero) ∧ Below w.heap.size w w' ∧ Writ (w.heap.size + 1) w' cs := by
  obtain ⟨W1, hW1⟩ : ∃ W1, W1 = w.alloc (.cells #[.int .i64 0, .string ⟨#[]⟩, .int .i64 0, .float .f64 0, .bool false, .slice none 0 0] 44) := ⟨_, rfl⟩
  have hb1 : Below w.heap.size w W1 := by rw [hW1]; exact (Below.refl _ _).alloc (Nat.le_refl _) _
  have hs1 : W1.heap.size = w.heap.size + 1 := by rw [hW1]; simp
  have hC : ∀ q u, #[.int .i64 0, .string ⟨#[]⟩, .int .i64 0, .float .f64 0, .bool false, .slice none 0 0][q]? = some u → W1.cell? ⟨w.heap.size, q, none⟩ = some u := fun q u h => by rw [hW1, World.cell?_alloc_new]; exact h
  have hfC : Blk W1 w.heap.size := by rw [hW1]; exact Blk.new w _ _
  replace h := h.below hb1
  obtain ⟨rb, m, vb, tb, ns, h⟩ := h
  have h1 := h.c1
  obtain ⟨cs, hl, hv, hc⟩ := h.vals.look k
  have hv := hv.mono off_all
  obtain ⟨a, cap, css, rfl, _⟩ := hv.out
  rw [cells6_array] at hl
  generalize (lookE s.es k).isSome = there at hl ⊢
  generalize (lookE s.es k).getD V.zero = v at *
  replace hv := Lib.hid hv
  replace hc := Lib.hid hc
  replace hb1 := Lib.hid hb1
  replace hC := Lib.hid hC
  rw [hW1] at h1 hl
  replace hW1 := Lib.hid hW1
  replace hs1 := Lib.hid hs1
  clear h
  go_enter Try.func31, Try.ntmps31
  go_wp2_with fail
  rw [← hW1.out]
  refine (copy_anyK v _ _ _ _ _ _ _ _ _ (hv.out.mono (cell_below ((Below.refl _ _).alloc (Nat.le_refl _) _))) hc.out).mono ?_
  rintro e w2 ⟨a', cap', rfl, hr, hb2, hwr⟩
  have hb2' : Below W1.heap.size W1 w2 := ((Below.refl _ _).alloc (Nat.le_refl _) _).trans (hb2.mono (by simp))
  have g0 := cell_below hb2' _ _ (hC.out 0 _ rfl)
  have g1 := cell_below hb2' _ _ (hC.out 1 _ rfl)
  have g2 := cell_below hb2' _ _ (hC.out 2 _ rfl)
  have g3 := cell_below hb2' _ _ (hC.out 3 _ rfl)
  have g4 := cell_below hb2' _ _ (hC.out 4 _ rfl)
  have g5 := cell_below hb2' _ _ (hC.out 5 _ rfl)
  have fC := hfC.of_block (hb2'.block _ (by rw [hs1.out]; omega))
  have hrC : w2.rangeAt w.heap.size 0 [.int .i64 0, .string ⟨#[]⟩, .int .i64 0, .float .f64 0, .bool false, .slice none 0 0] := range6 g0 g1 g2 g3 g4 g5
  have htC := there_of (n := 6) hrC fC rfl
  have hrR : (w2.setCells w.heap.size 0 [.int .i64 v.kind, .string v.text, .int .i64 v.int, .float .f64 v.real, .bool v.flag, .slice a' v.list.length cap']).rangeAt w.heap.size 0 [.int .i64 v.kind, .string v.text, .int .i64 v.int, .float .f64 v.real, .bool v.flag, .slice a' v.list.length cap'] :=
    World.rangeAt_setCells_same _ _ _ _ htC
  have hfin : Fr (fun k => k = w.heap.size) w2 (w2.setCells w.heap.size 0 [.int .i64 v.kind, .string v.text, .int .i64 v.int, .float .f64 v.real, .bool v.flag, .slice a' v.list.length cap']) :=
    Fr.setCells (S := fun k => k = w.heap.size) (fun _ => rfl) _ _ _ (Fr.refl _ w2)
  have hbw : Below w.heap.size w w2 := hb1.out.trans (hb2'.mono (by rw [hs1.out]; omega))
  replace hrC := Lib.hid hrC
  replace htC := Lib.hid htC
  replace hrR := Lib.hid hrR
  replace hr := Lib.hid hr
  replace hwr := Lib.hid hwr
  clear g0 g1 g2 g3 g4 g5 hl h1
  go_wp2_with (first
    | (refine wpList_store_mid rfl 44 _ _ rfl w.heap.size 0 _ rfl rfl htC.out infoVal (one6 _ _ _ _ _ _ _ _) ?_))
  refine bodyPost_ret (results_cell2 (v := .agg #[.int .i64 v.kind, .string v.text, .int .i64 v.int, .float .f64 v.real, .bool v.flag, .slice a' v.list.length cap']) rfl rfl (run_loadVar_mid (P := Try.prog) _ _ 0 44 _ _ hrR.out Try.underlying44 rfl infoVal)) rfl ⟨cells6 v.kind v.text v.int v.real v.flag a' v.list.length cap', rfl, ?_, ?_, ?_⟩
  · refine hr.out.mono (fun ad u h => ?_)
    obtain ⟨h1, h2⟩ := newer_cell h
    have : w.heap.size < ad.block := by have := hs1.out; simp at h2; omega
    unfold newer
    rw [if_neg (by omega)]
    exact hfin.cell h1 (fun e => by omega)
  · exact hbw.trans (hfin.below hbw.size (fun i hi h => by omega))
  · intro ad n c he
    simp only [cells6, List.getElem?_cons_succ, List.getElem?_cons_zero, Option.some.injEq, Value.slice.injEq] at he
    obtain ⟨q1, q2, q3⟩ := hwr.out ad he.1
    have hsz := hs1.out
    simp at q2
    exact ⟨q1, by omega, q3.fr hfin (fun h => by omega)⟩

theorem near_peek {w : World} {nb : Nat} {fp : List Nat} {s : NS} (h : Near w nb fp s) (k : ByteArray) :
    Calls Try.prog 31 #[P0 nb, .string k] w fun e w' => ∃ cs : List Value, e = .returned (.tuple #[.agg cs.toArray, .bool (lookE s.es k).isSome]) ∧ RV (newer w.heap.size w') cs ((lookE s.es k).getD V.zero) ∧ Below w.heap.size w w' :=
  (near_peekK h k).mono fun e w' ⟨cs, h1, h2, h3, _⟩ => ⟨cs, h1, h2, h3⟩

theorem near_forget {w : World} {nb rb m vb tb : Nat} {ns fp : List Nat} {s : NS} (h : NStr w nb rb m vb tb ns fp s.keys s) (k : ByteArray) :
    Calls Try.prog 49 #[P0 nb, .string k] w fun e w' => e = .returned (.bool (decide (k ∈ s.keys))) ∧ ∃ fp', Near w' nb fp' { s with es := s.es.filter (fun p => p.1 ≠ k) } ∧ Went w fp w' fp' := by
  have h1 := h.c1
  obtain ⟨o, hrun, ho⟩ := h.vals.del k
  obtain ⟨h2, hf2⟩ := h.setvals ho
  have h3 := h2.c0
  have hrc := h2.rc
  have hw2 : Went w fp (setB w vb o) fp := ⟨hf2, fun _ h => Or.inl h⟩
  replace h2 := Lib.hid h2
  replace hw2 := Lib.hid hw2
  clear h hf2 ho
  go_enter Try.func49, Try.ntmps49
  go_wp2_with fail
  refine (drop_any hrc k).mono ?_
  rintro e w1 ⟨rfl, ns', hrc', hf, hn⟩
  clear hrun h3 h1
  replace hrc' := Lib.hid hrc'
  go_wp2
  go_ret
  obtain ⟨fp', h4, h5, h6⟩ := h2.out.ring hrc'.out hf (fun b hb => by
    rcases List.mem_cons.1 hb with rfl | hb
    · simp
    · rcases hn b hb with h | h
      · simp [h]
      · exact Or.inr h)
  have hk : s.keys.filter (fun x => x ≠ k) = NS.keys { s with es := s.es.filter (fun p => p.1 ≠ k) } := (keys_filter s.es k).symm
  rw [hk] at h4
  exact ⟨rfl, fp', ⟨_, _, _, _, _, h4⟩, hw2.out.trans ⟨h5, h6⟩⟩

theorem near_begin {w : World} {nb : Nat} {fp : List Nat} {s : NS} (h : Near w nb fp s) (hl : s.last ≤ 1000000000) (hl0 : 0 ≤ s.last) (k : ByteArray) :
    Calls Try.prog 28 #[P0 nb, .string k] w fun e w' => e = .returned (.int .i64 (s.last + 1)) ∧ Near w' nb fp (s.begin k) ∧ Went w fp w' fp := by
  obtain ⟨rb, m, vb, tb, ns, h⟩ := h
  have h3 := h.c3
  have z3 := h.blk.frz 3 none
  have hlt := h.blk.lt
  obtain ⟨W1, hW1⟩ : ∃ W1, W1 = w.setCell ⟨nb, 3, none⟩ (.int .i64 (s.last + 1)) := ⟨_, rfl⟩
  have hf1 : Fr (· ∈ [nb]) w W1 := by rw [hW1]; exact (Fr.refl _ w).setCell (fun _ => by show nb ∈ [nb]; simp) _
  have hf1' : Fr (· ∈ fp) w W1 := hf1.mono (fun b _ hb => by rw [h.efp]; simp at hb ⊢; simp [hb])
  have hmm : ∀ b, b ≠ nb → ¬ b ∈ [nb] := fun b hb hm => hb (by simpa using hm)
  have same : ∀ o v, o ≠ 3 → w.cell? ⟨nb, o, none⟩ = some v → W1.cell? ⟨nb, o, none⟩ = some v := fun o v ho hv => by rw [hW1, cell_set_ne (by simp [Ne.symm ho])]; exact hv
  have hn1 : NStr W1 nb rb m vb tb ns fp s.keys { s with last := s.last + 1 } :=
    ⟨h.efp, same _ _ (by omega) h.c0, same _ _ (by omega) h.c1, same _ _ (by omega) h.c2, by rw [hW1]; exact cell_set_eq h3, same _ _ (by omega) h.c4, by rw [hW1]; exact h.blk.setCell _ _,
      h.rc.fr hf1 (fun b hb => hmm b (fun e => h.apart nb (by simp) (e ▸ hb))), h.vals.of_block (hf1.block _ h.vals.lt (hmm vb h.nv.symm)) (off_fr hf1' (fun _ hb => Or.inl hb)), h.tix.of_block (hf1.block _ h.tix.lt (hmm tb h.nt.symm)),
      h.apart, h.nv, h.nt, h.vt, fun p hp => by have := h.tlt p hp; show p.1 ≤ s.last + 1; omega, h.most0⟩
  have hnot : s.last + 1 ∉ s.ts.map (·.1) := fun hm => by
    obtain ⟨p, hp, e⟩ := List.mem_map.1 hm
    have := h.tlt p hp; omega
  have d2 := hn1.c2
  have d3 := hn1.c3
  replace hn1 := hn1.fr (w' := W1.drew) (S := fun _ => False) ((Fr.refl _ _).drew) (fun _ _ h => h) (fun a u h => h)
  obtain ⟨o, hrun, ho⟩ := hn1.tix.put (s.last + 1) k hnot
  obtain ⟨hn2, hf2⟩ := hn1.settix ho (fun p hp => by
    rcases List.mem_append.1 hp with hp | hp
    · have := h.tlt p hp; show p.1 ≤ s.last + 1; omega
    · simp at hp; subst hp; exact Int.le_refl _)
  have e3 := hn2.c3
  have hfin : Went w fp (setB W1.drew tb o) fp := ⟨hf1'.drew.trans hf2, fun _ hb => Or.inl hb⟩
  simp only at d3 e3
  rw [hW1] at d2 d3 hrun e3
  replace hn2 := Lib.hid hn2
  replace hfin := Lib.hid hfin
  replace hW1 := Lib.hid hW1
  clear h hn1 hf2 ho hf1 hf1' same hnot hmm
  go_enter Try.func28, Try.ntmps28
  go_wp2
  go_region
  all_goals
    go_wp2
    go_ret
    rw [← hW1.out]
    exact ⟨rfl, ⟨_, _, _, _, _, hn2.out⟩, hfin.out⟩
end Go.Proofs.Ytlddjcfbapdjnaa
