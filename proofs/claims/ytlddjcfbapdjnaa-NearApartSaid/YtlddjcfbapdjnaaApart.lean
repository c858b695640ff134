/- NearApart: its walk. -/
import Derived.Test.YtlddjcfbapdjnaaFirst
import Derived.Test.YtlddjcfbapdjnaaLaw23
import Derived.Test.YtlddjcfbapdjnaaFMap
namespace Go.Proofs.Ytlddjcfbapdjnaa
open Go.RowKit

theorem RVs.of_rv {c : Addr → Option Value} {k : Int} {t : ByteArray} {i : Int} {r : Nat} {f : Bool} {a : Option Addr} {n cap : Nat} {v : V} (h : RV c (cells6 k t i r f a n cap) v) :
    ∃ css, RVs c css v.list ∧ ∀ (j : Nat) (x : List Value), css[j]? = some x → ∃ b o, a = some ⟨b, o, none⟩ ∧ ∀ (q : Nat) (u : Value), x[q]? = some u → c ⟨b, o + j * 6 + q, none⟩ = some u := by
  obtain ⟨a0, cap0, css, he, hl, hr, hv⟩ := h.out
  simp only [cells6, List.cons.injEq, Value.slice.injEq, and_true] at he
  obtain ⟨_, _, _, _, _, rfl, _, _⟩ := he
  exact ⟨css, ⟨hl, hv⟩, hr⟩
theorem flat_get {css : List (List Value)} (h : ∀ x ∈ css, x.length = 6) {j : Nat} {u : Value} (hj : css.flatten[j]? = some u) : ∃ x, css[j / 6]? = some x ∧ x[j % 6]? = some u := by
  have hlt := (List.getElem?_eq_some_iff.1 hj).1
  rw [flat_len h] at hlt
  have hq : j / 6 < css.length := by omega
  refine ⟨css[j / 6], by simp [hq], ?_⟩
  have hx := h css[j / 6] (List.getElem_mem hq)
  have h2 : j % 6 < css[j / 6].length := by rw [hx]; omega
  have := flat_at h (j / 6) css[j / 6] (by simp [hq]) (j % 6) css[j / 6][j % 6] (by simp [h2])
  rw [show j / 6 * 6 + j % 6 = j by omega] at this
  rw [this] at hj
  cases hj
  simp [h2]
/-- A value's list as a row of cells. -/
theorem reads_of_rv {w : World} {k : Int} {t : ByteArray} {i : Int} {r : Nat} {f : Bool} {a : Option Addr} {n cap : Nat} {v : V} (h : RV w.cell? (cells6 k t i r f a n cap) v) :
    ∃ css, RVs w.cell? css v.list ∧ Reads w 6 (.slice a n cap) n css.flatten := by
  obtain ⟨_, _, _, _, _, hn⟩ := h.len
  obtain ⟨css, h1, h2⟩ := RVs.of_rv h
  refine ⟨css, h1, a, cap, rfl, by rw [flat_len h1.len6, h1.1, hn], fun j u hj => ?_⟩
  obtain ⟨x, hx, hu⟩ := flat_get h1.len6 hj
  obtain ⟨b, o, ha, hc⟩ := h2 _ _ hx
  refine ⟨b, o, ha, ?_⟩
  have := hc _ _ hu
  rw [show o + j / 6 * 6 + j % 6 = o + j by omega] at this
  exact this
/-- .. and back. -/
theorem rv_of_reads {w : World} {v : V} {a : Option Addr} {n cap : Nat} {css : List (List Value)} (h1 : RVs w.cell? css v.list) (hr : Reads w 6 (.slice a n cap) n css.flatten) :
    RV w.cell? (cells6 v.kind v.text v.int v.real v.flag a n cap) v := by
  have h6 := h1.len6
  have hl := hr.len.2
  rw [flat_len h6, h1.1] at hl
  obtain rfl : n = v.list.length := by omega
  refine RV.intro a cap css h1.1 (fun j x hx => ?_) h1.2
  have hj := (List.getElem?_eq_some_iff.1 hx).1
  have hx6 : x.length = 6 := h6 x (List.mem_of_getElem? hx)
  obtain ⟨b, o, ha, hc⟩ := hr.at (j := j * 6) (by rw [flat_len h6]; omega)
  refine ⟨b, o, ha, fun q u hu => ?_⟩
  have h1 := hc _ _ (flat_at h6 j x hx q u hu)
  rw [show o + j * 6 + q = o + (j * 6 + q) by omega]
  exact h1
theorem flat_one {css : List (List Value)} (h : ∀ x ∈ css, x.all (fun u => u.oneCell') = true) : css.flatten.all (fun u => u.oneCell') = true := by
  rw [List.all_eq_true]
  intro u hu
  obtain ⟨x, hx, hux⟩ := List.mem_flatten.1 hu
  exact List.all_eq_true.1 (h x hx) u hux
theorem RVs.one {c : Addr → Option Value} {css : List (List Value)} {l : List V} (h : RVs c css l) : css.flatten.all (fun u => u.oneCell') = true := by
  refine flat_one fun x hx => ?_
  obtain ⟨j, hj, rfl⟩ := List.getElem_of_mem hx
  have hj' : j < l.length := h.1 ▸ hj
  obtain ⟨a, cap, css', he, _⟩ := (h.2 j css[j] l[j] (by simp [hj]) (by simp [hj'])).out
  rw [he]
  simp [cells6, Value.oneCell']
theorem kp_keep2 {W w w' : World} (h : Below W.heap.size W w ∧ ∀ b o, b < W.heap.size → w.cell? ⟨b, o, none⟩ = W.cell? ⟨b, o, none⟩) (hb : Below W.heap.size w w') :
    Below W.heap.size W w' ∧ ∀ b o, b < W.heap.size → w'.cell? ⟨b, o, none⟩ = W.cell? ⟨b, o, none⟩ := kp_of (h.1.trans hb)

theorem Blk.new_at (w : World) (cs : Array Value) (t : TypeId) (b : Nat) (h : b = w.heap.size) : Blk (w.alloc (.cells cs t)) b := by subst h; exact Blk.new w cs t
theorem hn1 (w : World) (o : Obj) : (w.alloc o).heap[w.heap.size]? = some o := by show (w.heap.push _)[w.heap.size]? = _; simp
theorem hn2 (w : World) (o p : Obj) : ((w.alloc o).alloc p).heap[w.heap.size]? = some o := by rw [Below.heap_alloc _ _ _ (by simp)]; exact hn1 w o
theorem hn3 (w : World) (o p : Obj) : ((w.alloc o).alloc p).heap[w.heap.size + 1]? = some p := by have := hn1 (w.alloc o) p; simpa using this
theorem own0 {X : World} {B g e size : Nat} (h : X.heap[g]? = some (.cells #[] e (0, 0))) (hB : B ≤ g) : X.ownsRow B e size (.slice (some ⟨g, 0, none⟩) 0 0) 0 [] :=
  ⟨by simp, Or.inr ⟨g, 0, #[], rfl, hB, h, Nat.le_refl _, by unfold maxLen; omega, by simp, by simp⟩⟩
theorem append_kp {X w7 : World} {B g n c : Nat} (hf : Fr (fun k => (Value.slice (some ⟨g, 0, none⟩) n c).ownBlock = some k) X w7) (hg : B ≤ g) (hX : B ≤ X.heap.size) : Below B X w7 :=
  hf.below hX (fun i hi e => by simp [Value.ownBlock] at e; omega)
theorem zbox {X w7 : World} {S : Nat → Prop} {b : Nat} {c0 c1 c2 c3 c4 c5 : Value} {T : TypeId} (hf : Fr S X w7) (h : X.heap[b]? = some (.cells #[c0, c1, c2, c3, c4, c5] T (0, 0))) (hS : ¬ S b) :
    w7.cell? ⟨b, 0, none⟩ = some c0 ∧ w7.cell? ⟨b, 1, none⟩ = some c1 ∧ w7.cell? ⟨b, 2, none⟩ = some c2 ∧ w7.cell? ⟨b, 3, none⟩ = some c3 ∧ w7.cell? ⟨b, 4, none⟩ = some c4 ∧ w7.cell? ⟨b, 5, none⟩ = some c5 ∧
    w7.frozen? ⟨b, 0, none⟩ = false ∧ w7.frozen? ⟨b, 1, none⟩ = false ∧ w7.frozen? ⟨b, 2, none⟩ = false ∧ w7.frozen? ⟨b, 3, none⟩ = false ∧ w7.frozen? ⟨b, 4, none⟩ = false ∧ w7.frozen? ⟨b, 5, none⟩ = false := by
  have hlt := (Array.getElem?_eq_some_iff.1 h).1
  have hc : ∀ q u, (#[c0, c1, c2, c3, c4, c5] : Array Value)[q]? = some u → w7.cell? ⟨b, q, none⟩ = some u := fun q u hq => by
    refine hf.cell ?_ hS
    unfold World.cell?
    simp only [h]
    exact hq
  have hb : Blk w7 b := Blk.fr ⟨_, _, h⟩ hf hS
  exact ⟨hc 0 _ rfl, hc 1 _ rfl, hc 2 _ rfl, hc 3 _ rfl, hc 4 _ rfl, hc 5 _ rfl, hb.frz _ _, hb.frz _ _, hb.frz _ _, hb.frz _ _, hb.frz _ _, hb.frz _ _⟩
theorem step6 {P : Program} {W X : World} {ops : Array Oper} {o : Oper} {a : Act} {K : Act → World → Prop} {Q : Exit → Act → World → Prop} {E' : Prop} {s x : Operand} {t e size bytes g m cx : Nat} {ax : Option Addr} {news : List Value}
    (hgd : o.guard = none) (ho : o.op = .call { callee := .builtin .append, args := #[s, x], argTypes := #[t, t] }) (E : Elem P t e size bytes) (hs : a.eval s = .slice (some ⟨g, 0, none⟩) 0 0) (hx : a.eval x = .slice ax m cx)
    (hX : X.heap[g]? = some (.cells #[] e (0, 0))) (hg : W.heap.size ≤ g) (hS : Below W.heap.size W X ∧ ∀ b o, b < W.heap.size → X.cell? ⟨b, o, none⟩ = W.cell? ⟨b, o, none⟩)
    (hr : Reads W size (.slice ax m cx) m news) (hnil : ax = none → cx = 0) (h1 : news.all (fun u => u.oneCell') = true) (hn : m < 1000000000)
    (h : ∀ a7 c7 w7, w7.ownsRow W.heap.size e size (.slice a7 m c7) m news → (Below W.heap.size W w7 ∧ ∀ b o, b < W.heap.size → w7.cell? ⟨b, o, none⟩ = W.cell? ⟨b, o, none⟩) → Fr (fun k => k = g) X w7 → (∀ k, (Value.slice a7 m c7).ownBlock = some k → k = g ∨ X.heap.size ≤ k) → K (a.put o.dst (.slice a7 m c7)) w7) :
    if Region.wanted o (yielded ops a.tmps) = true then Oper.wp P o a X K Q else E' := by
  refine step_append_any (base := W.heap.size) (n := 0) (xs := []) hgd ho E hs (own0 hX hg) hx (hr.below hS.1) hnil h1 (by omega) hS.1.size ?_
  intro v7 w7 hown7 hf7 hn7
  rw [Nat.zero_add, List.nil_append] at hown7
  obtain ⟨a7, c7, rfl⟩ := (Reads.of_owns hown7).shape
  exact h a7 c7 w7 hown7 (kp_of (hS.1.trans (append_kp hf7 hg hS.1.size))) (hf7.mono (fun i _ e => by simp [Value.ownBlock] at e; omega)) (fun k hk => by
    rcases hn7 k hk with h | h
    · simp [Value.ownBlock] at h; exact Or.inl h.symm
    · exact Or.inr h)
theorem kp_set6 {W w : World} {b : Nat} {c0 c1 c2 c3 c4 c5 : Value} (h : Below W.heap.size W w ∧ ∀ b o, b < W.heap.size → w.cell? ⟨b, o, none⟩ = W.cell? ⟨b, o, none⟩) (hb : W.heap.size ≤ b) :
    Below W.heap.size W ((((((w.setCell ⟨b, 0, none⟩ c0).setCell ⟨b, 1, none⟩ c1).setCell ⟨b, 2, none⟩ c2).setCell ⟨b, 3, none⟩ c3).setCell ⟨b, 4, none⟩ c4).setCell ⟨b, 5, none⟩ c5) ∧
      ∀ b' o, b' < W.heap.size → ((((((w.setCell ⟨b, 0, none⟩ c0).setCell ⟨b, 1, none⟩ c1).setCell ⟨b, 2, none⟩ c2).setCell ⟨b, 3, none⟩ c3).setCell ⟨b, 4, none⟩ c4).setCell ⟨b, 5, none⟩ c5).cell? ⟨b', o, none⟩ = W.cell? ⟨b', o, none⟩ :=
  kp_of ((((((h.1.setCell hb _).setCell hb _).setCell hb _).setCell hb _).setCell hb _).setCell hb _)
theorem kp_a1 {W : World} {o : Obj} : Below W.heap.size W (W.alloc o).drew ∧ ∀ b o', b < W.heap.size → (W.alloc o).drew.cell? ⟨b, o', none⟩ = W.cell? ⟨b, o', none⟩ := kp_of (((Below.refl _ _).alloc (Nat.le_refl _) o).drew)
theorem kp_a2 {W : World} {o p : Obj} : Below W.heap.size W ((W.alloc o).alloc p).drew ∧ ∀ b o', b < W.heap.size → ((W.alloc o).alloc p).drew.cell? ⟨b, o', none⟩ = W.cell? ⟨b, o', none⟩ := kp_of ((((Below.refl _ _).alloc (Nat.le_refl _) o).alloc (by simp) p).drew)
/-- What the region leaves: a box at bw, whose list is a row of the call's own. -/
def Left (W : World) (e : TypeId) (cs : Option Addr → Nat → List Value) (n : Nat) (xs : List Value) (s3 : Value) (wx : World) : Prop :=
  ∃ (bw : Nat) (a7 : Option Addr) (c7 : Nat), s3 = P0 bw ∧ Below W.heap.size W wx ∧ W.heap.size ≤ bw ∧ bw < wx.heap.size ∧ wx.rangeAt bw 0 (cs a7 c7) ∧ wx.ownsRow W.heap.size e 6 (.slice a7 n c7) n xs ∧ ∀ k, (Value.slice a7 n c7).ownBlock = some k → k ≠ bw
theorem Left.new {W w7 : World} {e T : TypeId} {n : Nat} {xs : List Value} {a7 : Option Addr} {c7 : Nat} {c0 c1 c2 c3 c4 : Value} (hown : w7.ownsRow W.heap.size e 6 (.slice a7 n c7) n xs) (hS : Below W.heap.size W w7) :
    Left W e (fun a c => [c0, c1, c2, c3, c4, .slice a n c]) n xs (P0 w7.heap.size) (w7.alloc (.cells #[c0, c1, c2, c3, c4, .slice a7 n c7] T)) := by
  have hb : Below w7.heap.size w7 (w7.alloc (.cells #[c0, c1, c2, c3, c4, .slice a7 n c7] T)) := (Below.refl _ _).alloc (Nat.le_refl _) _
  refine ⟨w7.heap.size, a7, c7, rfl, hS.alloc hS.size _, hS.size, by simp, ?_, owns_fr hown (Fr.of_below hb) (fun k hk h => by have := (owns_block hown k hk).2; omega), fun k hk => Nat.ne_of_lt (owns_block hown k hk).2⟩
  intro j v hv
  rw [Nat.zero_add, World.cell?_alloc_new]
  simpa using hv
theorem Left.set {W w7 : World} {e : TypeId} {n b : Nat} {xs : List Value} {a7 : Option Addr} {c7 : Nat} {c0 c1 c2 c3 c4 z0 z1 z2 z3 z4 z5 : Value} (hown : w7.ownsRow W.heap.size e 6 (.slice a7 n c7) n xs) (hS : Below W.heap.size W w7) (hb : W.heap.size ≤ b)
    (h0 : w7.cell? ⟨b, 0, none⟩ = some z0) (h1 : w7.cell? ⟨b, 1, none⟩ = some z1) (h2 : w7.cell? ⟨b, 2, none⟩ = some z2) (h3 : w7.cell? ⟨b, 3, none⟩ = some z3) (h4 : w7.cell? ⟨b, 4, none⟩ = some z4) (h5 : w7.cell? ⟨b, 5, none⟩ = some z5)
    (hne : ∀ k, (Value.slice a7 n c7).ownBlock = some k → k ≠ b) :
    Left W e (fun a c => [c0, c1, c2, c3, c4, .slice a n c]) n xs (P0 b) ((((((w7.setCell ⟨b, 0, none⟩ c0).setCell ⟨b, 1, none⟩ c1).setCell ⟨b, 2, none⟩ c2).setCell ⟨b, 3, none⟩ c3).setCell ⟨b, 4, none⟩ c4).setCell ⟨b, 5, none⟩ (.slice a7 n c7)) := by
  have hf : Fr (fun k => k = b) w7 ((((((w7.setCell ⟨b, 0, none⟩ c0).setCell ⟨b, 1, none⟩ c1).setCell ⟨b, 2, none⟩ c2).setCell ⟨b, 3, none⟩ c3).setCell ⟨b, 4, none⟩ c4).setCell ⟨b, 5, none⟩ (.slice a7 n c7)) :=
    Fr.setCells (S := fun k => k = b) (fun _ => rfl) [c0, c1, c2, c3, c4, .slice a7 n c7] 0 w7 (Fr.refl _ _)
  have hlt := World.block_lt_of_cell? _ _ h0
  refine ⟨b, a7, c7, rfl, hS.trans (hf.below hS.size (fun i hi e => by omega)), hb, Nat.lt_of_lt_of_le hlt hf.size, ?_, owns_fr hown hf (fun k hk e => hne k hk e), hne⟩
  have e : ∀ (w : World) (i j : Nat) (x : Value), i ≠ j → (w.setCell ⟨b, i, none⟩ x).cell? ⟨b, j, none⟩ = w.cell? ⟨b, j, none⟩ := fun w i j x h => cell_set_ne (by simp [h])
  have s : ∀ (w : World) (i : Nat) (x u : Value), w.cell? ⟨b, i, none⟩ = some u → (w.setCell ⟨b, i, none⟩ x).cell? ⟨b, i, none⟩ = some x := fun w i x u h => cell_set_eq h
  refine range6 ?_ ?_ ?_ ?_ ?_ ?_
  · rw [e _ 5 0 _ (by omega), e _ 4 0 _ (by omega), e _ 3 0 _ (by omega), e _ 2 0 _ (by omega), e _ 1 0 _ (by omega)]; exact s _ 0 _ _ h0
  · rw [e _ 5 _ _ (by omega), e _ 4 _ _ (by omega), e _ 3 _ _ (by omega), e _ 2 _ _ (by omega)]; exact s _ _ _ z1 (by rw [e _ 0 _ _ (by omega)]; exact h1)
  · rw [e _ 5 _ _ (by omega), e _ 4 _ _ (by omega), e _ 3 _ _ (by omega)]; exact s _ _ _ z2 (by rw [e _ 1 _ _ (by omega), e _ 0 _ _ (by omega)]; exact h2)
  · rw [e _ 5 _ _ (by omega), e _ 4 _ _ (by omega)]; exact s _ _ _ z3 (by rw [e _ 2 _ _ (by omega), e _ 1 _ _ (by omega), e _ 0 _ _ (by omega)]; exact h3)
  · rw [e _ 5 _ _ (by omega)]; exact s _ _ _ z4 (by rw [e _ 3 _ _ (by omega), e _ 2 _ _ (by omega), e _ 1 _ _ (by omega), e _ 0 _ _ (by omega)]; exact h4)
  · exact s _ _ _ z5 (by rw [e _ 4 _ _ (by omega), e _ 3 _ _ (by omega), e _ 2 _ _ (by omega), e _ 1 _ _ (by omega), e _ 0 _ _ (by omega)]; exact h5)
theorem lookE_one (k : ByteArray) (v : V) : lookE [(k, v)] k = some v := by simp [lookE]
/-- Blocks that nothing near reads are turned. -/
theorem near_away {w W : World} {nb vb : Nat} {fp X : List Nat} {s : NS} {S : Nat → Prop} (h : Near w nb fp s) (hc : w.cell? ⟨nb, 1, none⟩ = some (.map (some vb))) (hV : Vals w vb (X ++ fp) s.es) (hf : Fr S w W) (hS : ∀ b, S b → b ∈ X ∧ b ∉ fp) :
    Near W nb fp s ∧ W.cell? ⟨nb, 1, none⟩ = some (.map (some vb)) ∧ Vals W vb (X ++ fp) s.es := by
  obtain ⟨rb, m, vb', tb, ns, h⟩ := h
  have h1 := h.c1
  rw [hc] at h1
  cases h1
  have hm : ∀ b, b ∈ fp → ¬ S b := fun b hb hs => (hS b hs).2 hb
  have hmf : ∀ b, b ∈ nb :: rb :: m :: vb :: tb :: ns → ¬ S b := fun b hb => hm b (by rw [h.efp]; exact hb)
  have hn : ¬ S nb := hmf _ (by simp)
  have hVW : Vals W vb (X ++ fp) s.es := hV.of_block (hf.block _ hV.lt (hmf _ (by simp))) (fun a u hu => by
    obtain ⟨q1, q2⟩ := off_cell hu
    unfold off
    rw [if_neg q2]
    exact hf.cell q1 (fun hs => q2 (List.mem_append_left _ (hS _ hs).1)))
  exact ⟨⟨rb, m, vb, tb, ns, h.efp, hf.cell h.c0 hn, hf.cell h.c1 hn, hf.cell h.c2 hn, hf.cell h.c3 hn, hf.cell h.c4 hn, h.blk.fr hf hn, h.rc.fr hf (fun b hb => hmf b (by simp at hb ⊢; rcases hb with h | h | h <;> simp [h])),
    hVW.of_block rfl (fun a u hu => by
      obtain ⟨q1, q2⟩ := off_cell hu
      unfold off
      rw [if_neg (fun hb => q2 (List.mem_append_right _ hb))]; exact q1),
    h.tix.of_block (hf.block _ h.tix.lt (hmf _ (by simp))), h.apart, h.nv, h.nt, h.vt, h.tlt, h.most0⟩, hf.cell hc hn, hVW⟩
/-- Behind a Get: what is near lies below what the Get made. -/
theorem vals_kept {w w' : World} {nb vb : Nat} {fp fp' X : List Nat} {es : List (ByteArray × V)} (hc : w.cell? ⟨nb, 1, none⟩ = some (.map (some vb))) (hV : Vals w vb (X ++ fp) es) (hw : Went w fp w' fp') (hk : Kept w w' nb) {Y : List Nat} (hY : ∀ b ∈ Y, w.heap.size ≤ b) :
    w'.cell? ⟨nb, 1, none⟩ = some (.map (some vb)) ∧ Vals w' vb (Y ++ fp') es := by
  obtain ⟨h1, h2⟩ := hk vb hc hV.lt
  refine ⟨h1, hV.of_block h2 (fun a u hu => ?_)⟩
  obtain ⟨q1, q2⟩ := off_cell hu
  have hlt := World.block_lt_of_cell? _ _ q1
  have hnf : a.block ∉ fp := fun h => q2 (List.mem_append_right _ h)
  unfold off
  rw [if_neg (fun hm => by
    rcases List.mem_append.1 hm with h | h
    · have := hY _ h; omega
    · rcases hw.2 _ h with h | h
      · exact hnf h
      · omega)]
  exact hw.1.cell q1 hnf
/-- A row's first element replaced. -/
theorem row_there {w : World} {n : Nat} {xs : List Value} {a : Option Addr} {c : Nat} (hr : Reads w 6 (.slice a n c) n xs) (hn : 0 < n) (hb : ∀ ad, a = some ad → ad = ⟨ad.block, 0, none⟩ ∧ Blk w ad.block) :
    ∃ b, a = some ⟨b, 0, none⟩ ∧ w.there b 0 6 ∧ b < w.heap.size := by
  have hl := hr.len.2
  obtain ⟨b, o, rfl, hc⟩ := hr.at (j := 0) (by omega)
  obtain ⟨e, hblk⟩ := hb _ rfl
  cases e
  refine ⟨b, rfl, fun j hj => ⟨?_, hblk.frz _ none⟩, hblk.lt⟩
  have hj' : j < xs.length := by omega
  have := hc j xs[j] (by simp [hj'])
  rw [Nat.zero_add] at this
  simp [this]
/-- What stands while the law goes on: what is near; the value as it was, in a box at bw with a row between K and L. -/
structure AF (w : World) (K L nb vb bw : Nat) (v : V) (css : List (List Value)) (a7 : Option Addr) (c7 : Nat) (wx : World) (fp : List Nat) (s : NS) : Prop where
  near : Near wx nb fp s
  es : s.es = [(kK, v)]
  c1 : wx.cell? ⟨nb, 1, none⟩ = some (.map (some vb))
  bel : Below w.heap.size w wx
  le : L ≤ wx.heap.size
  own : ∀ b ∈ fp, L ≤ b
  bwk : K ≤ bw ∧ bw < L
  was : wx.rangeAt bw 0 [.int .i64 v.kind, .string v.text, .int .i64 v.int, .float .f64 v.real, .bool v.flag, .slice a7 v.list.length c7]
  rd : Reads wx 6 (.slice a7 v.list.length c7) v.list.length css.flatten
  r7 : ∀ ad, a7 = some ad → K ≤ ad.block ∧ ad.block < L
section
variable {w : World} {K L nb vb bw : Nat} {v : V} {css : List (List Value)} {a7 : Option Addr} {c7 : Nat} {wx : World} {fp : List Nat} {s : NS}
theorem AF.fr (h : AF w K L nb vb bw v css a7 c7 wx fp s) {W : World} {S : Nat → Prop} {fp' : List Nat} {s' : NS} (hf : Fr S wx W) (hS : ∀ i, S i → w.heap.size ≤ i ∧ (i < K ∨ L ≤ i)) (hn : Near W nb fp' s') (hes : s'.es = [(kK, v)]) (hc : W.cell? ⟨nb, 1, none⟩ = some (.map (some vb))) (ho : ∀ b ∈ fp', L ≤ b) (hwl : w.heap.size ≤ L) :
    AF w K L nb vb bw v css a7 c7 W fp' s' :=
  ⟨hn, hes, hc, h.bel.trans (hf.below (Nat.le_trans hwl h.le) (fun i hi hs => by have := (hS i hs).1; omega)), Nat.le_trans h.le hf.size, ho, h.bwk,
    fun j u hj => hf.cell (h.was j u hj) (fun hs => by have h1 : bw < K ∨ L ≤ bw := (hS _ hs).2; have := h.bwk; omega),
    h.rd.fr hf (fun a' m c e hs => by cases e; have := (hS _ hs).2; have := h.r7 _ rfl; omega), h.r7⟩
theorem AF.below (h : AF w K L nb vb bw v css a7 c7 wx fp s) {W : World} (hb : Below wx.heap.size wx W) (hwl : w.heap.size ≤ L) : AF w K L nb vb bw v css a7 c7 W fp s :=
  h.fr (Fr.of_below hb) (fun i hi => by have := h.le; omega) (h.near.below hb) h.es (cell_below hb _ _ h.c1) h.own hwl
theorem AF.set (h : AF w K L nb vb bw v css a7 c7 wx fp s) {W : World} {g : Nat} {X : List Nat} (hf : Fr (fun k => k = g) wx W) (hg : w.heap.size ≤ g) (hgo : g < K ∨ L ≤ g) (hgf : g ∉ fp) (hV : Vals wx vb (X ++ fp) s.es) (hgX : g ∈ X) (hwl : w.heap.size ≤ L) :
    AF w K L nb vb bw v css a7 c7 W fp s ∧ Vals W vb (X ++ fp) s.es := by
  obtain ⟨h1, h2, h3⟩ := near_away h.near h.c1 hV hf (fun b hb => by subst hb; exact ⟨hgX, hgf⟩)
  exact ⟨h.fr hf (fun i hi => by subst hi; exact ⟨hg, hgo⟩) h1 h.es h2 h.own hwl, h3⟩
theorem AF.get (h : AF w K L nb vb bw v css a7 c7 wx fp s) {W : World} {fp' X : List Nat} (hn : Near W nb fp' (s.get kK)) (hw : Went wx fp W fp') (hk : Kept wx W nb) (hV : Vals wx vb (X ++ fp) s.es) (hwl : w.heap.size ≤ L) :
    AF w K L nb vb bw v css a7 c7 W fp' (s.get kK) ∧ ∀ Y : List Nat, (∀ b ∈ Y, wx.heap.size ≤ b) → Vals W vb (Y ++ fp') (s.get kK).es := by
  have hes : (s.get kK).es = [(kK, v)] := by simp [NS.get, h.es, lookE, putE]
  obtain ⟨q1, _⟩ := vals_kept h.c1 hV hw hk (Y := []) (fun b hb => by cases hb)
  refine ⟨h.fr hw.1 (fun i hi => ⟨by have := h.own i hi; omega, Or.inr (h.own i hi)⟩) hn hes q1 (fun b hb => by
    rcases hw.2 b hb with h1 | h1
    · exact h.own b h1
    · have := h.le; omega) hwl, fun Y hY => ?_⟩
  rw [hes, ← h.es]
  exact (vals_kept h.c1 hV hw hk hY).2
theorem AF.rvs (h : AF w K L nb vb bw v css a7 c7 wx fp s) (hcs : RVs w.cell? css v.list) : RV wx.cell? (cells6 v.kind v.text v.int v.real v.flag a7 v.list.length c7) v := rv_of_reads (hcs.mono (cell_below h.bel)) h.rd
theorem AF.six (h : AF w K L nb vb bw v css a7 c7 wx fp s) : wx.cell? ⟨bw, 0, none⟩ = some (.int .i64 v.kind) ∧ wx.cell? ⟨bw, 1, none⟩ = some (.string v.text) ∧ wx.cell? ⟨bw, 2, none⟩ = some (.int .i64 v.int) ∧ wx.cell? ⟨bw, 3, none⟩ = some (.float .f64 v.real) ∧ wx.cell? ⟨bw, 4, none⟩ = some (.bool v.flag) ∧ wx.cell? ⟨bw, 5, none⟩ = some (.slice a7 v.list.length c7) := by
  have h := h.was
  exact ⟨by simpa using h 0 _ rfl, by simpa using h 1 _ rfl, by simpa using h 2 _ rfl, by simpa using h 3 _ rfl, by simpa using h 4 _ rfl, by simpa using h 5 _ rfl⟩
theorem AF.look (h : AF w K L nb vb bw v css a7 c7 wx fp s) : lookE s.es kK = some v := by rw [h.es]; exact lookE_one _ _
end
theorem there_six {w : World} {g : Nat} (h : w.there g 0 6) : (∃ z0 z1 z2 z3 z4 z5, w.cell? ⟨g, 0, none⟩ = some z0 ∧ w.cell? ⟨g, 1, none⟩ = some z1 ∧ w.cell? ⟨g, 2, none⟩ = some z2 ∧ w.cell? ⟨g, 3, none⟩ = some z3 ∧ w.cell? ⟨g, 4, none⟩ = some z4 ∧ w.cell? ⟨g, 5, none⟩ = some z5) ∧
    w.frozen? ⟨g, 0, none⟩ = false ∧ w.frozen? ⟨g, 1, none⟩ = false ∧ w.frozen? ⟨g, 2, none⟩ = false ∧ w.frozen? ⟨g, 3, none⟩ = false ∧ w.frozen? ⟨g, 4, none⟩ = false ∧ w.frozen? ⟨g, 5, none⟩ = false := by
  have c : ∀ j, j < 6 → ∃ z, w.cell? ⟨g, j, none⟩ = some z := fun j hj => Option.isSome_iff_exists.1 (by have := (h j hj).1; simpa using this)
  have f : ∀ j, j < 6 → w.frozen? ⟨g, j, none⟩ = false := fun j hj => by have := (h j hj).2; simpa using this
  obtain ⟨z0, h0⟩ := c 0 (by omega)
  obtain ⟨z1, h1⟩ := c 1 (by omega)
  obtain ⟨z2, h2⟩ := c 2 (by omega)
  obtain ⟨z3, h3⟩ := c 3 (by omega)
  obtain ⟨z4, h4⟩ := c 4 (by omega)
  obtain ⟨z5, h5⟩ := c 5 (by omega)
  exact ⟨⟨z0, z1, z2, z3, z4, z5, h0, h1, h2, h3, h4, h5⟩, f 0 (by omega), f 1 (by omega), f 2 (by omega), f 3 (by omega), f 4 (by omega), f 5 (by omega)⟩
theorem owns_nil {w : World} {B e size k n c : Nat} {a : Option Addr} {xs : List Value} (h : w.ownsRow B e size (.slice a n c) k xs) : a = none → c = 0 := by
  intro ha; subst ha
  rcases h.2 with ⟨e, _⟩ | ⟨g, cap, cur, e, _⟩
  · cases e; rfl
  · cases e
set_option maxHeartbeats 3200000 in
set_option maxRecDepth 100000 in
theorem apart23_any {w : World} {v : V} {a : Option Addr} {cap : Nat} (hv : RV w.cell? (cells6 v.kind v.text v.int v.real v.flag a v.list.length cap) v) (hnil : a = none → cap = 0) :
    Calls Try.prog 6 #[.agg #[.int .i64 v.kind, .string v.text, .int .i64 v.int, .float .f64 v.real, .bool v.flag, .slice a v.list.length cap]] w fun e w' => e = .returned (.bool true) ∧ Below w.heap.size w w' := by
  obtain ⟨W1, hW1⟩ : ∃ W1, W1 = w.alloc (.cells #[.int .i64 v.kind, .string v.text, .int .i64 v.int, .float .f64 v.real, .bool v.flag, .slice a v.list.length cap] 44) := ⟨_, rfl⟩
  have hb1 : Below w.heap.size w W1 := by rw [hW1]; exact (Below.refl _ _).alloc (Nat.le_refl _) _
  have hs1 : W1.heap.size = w.heap.size + 1 := by rw [hW1]; simp
  have hB : ∀ q u, #[.int .i64 v.kind, .string v.text, .int .i64 v.int, .float .f64 v.real, .bool v.flag, .slice a v.list.length cap][q]? = some u → W1.cell? ⟨w.heap.size, q, none⟩ = some u := fun q u h => by rw [hW1, World.cell?_alloc_new]; exact h
  have hfB : Blk W1 w.heap.size := by rw [hW1]; exact Blk.new w _ _
  have hv1 := hv.mono (cell_below hb1)
  obtain ⟨css, hcs, hrd0⟩ := reads_of_rv hv
  have hone := hcs.one
  replace hcs := Lib.hid hcs
  replace hrd0 := Lib.hid hrd0
  replace hs1 := Lib.hid hs1
  replace hB := Lib.hid hB
  replace hW1 := Lib.hid hW1
  clear hv
  go_enter Try.func6, Try.ntmps6
  go_wp2_with fail
  rw [← hW1.out]
  refine (alive23_any W1).mono ?_
  rintro e w2 ⟨rfl, hb2⟩
  have g0 := cell_below hb2 _ _ (hB.out 0 (.int .i64 v.kind) rfl)
  have g1 := cell_below hb2 _ _ (hB.out 1 (.string v.text) rfl)
  have g2 := cell_below hb2 _ _ (hB.out 2 (.int .i64 v.int) rfl)
  have g3 := cell_below hb2 _ _ (hB.out 3 (.float .f64 v.real) rfl)
  have g4 := cell_below hb2 _ _ (hB.out 4 (.bool v.flag) rfl)
  have g5 := cell_below hb2 _ _ (hB.out 5 (.slice a v.list.length cap) rfl)
  have hv2 := hv1.mono (cell_below hb2)
  replace g0 := Lib.hid g0
  replace hv2 := Lib.hid hv2
  have g0 := g0.out
  go_wp2_with fail
  refine (small_any hv2.out).mono ?_
  rintro e w3 ⟨q, rfl, hq, hb3⟩
  have hb03 : Below w.heap.size w w3 := hb1.trans ((hb2.mono (by rw [hs1.out]; omega)).trans (hb3.mono (by have := hb2.size; rw [hs1.out] at this; omega)))
  cases q with
  | false =>
    replace hb03 := Lib.hid hb03
    go_wp2
    go_ret
    exact ⟨rfl, hb03.out⟩
  | true =>
  have hcnt := (hq rfl).1
  have hll : v.list.length ≤ 3000 := by have := V.length_le v.list; have := v.count_list_lt; omega
  have hv3 := hv2.out.mono (cell_below hb3)
  have k0 := cell_below hb3 _ _ g0
  have k1 := cell_below hb3 _ _ g1
  have k2 := cell_below hb3 _ _ g2
  have k3 := cell_below hb3 _ _ g3
  have k4 := cell_below hb3 _ _ g4
  have k5 := cell_below hb3 _ _ g5
  have kf := ((hfB.of_block (hb2.block _ (by rw [hs1.out]; omega))).of_block (hb3.block _ (by have := hb2.size; rw [hs1.out] at this; omega)))
  have hrd := hrd0.out.below hb03
  have hs3 : w.heap.size < w3.heap.size := World.block_lt_of_cell? _ _ k0
  obtain ⟨W4, hW4⟩ : ∃ W4, W4 = w3.alloc (.cells #[] 44) := ⟨_, rfl⟩
  have hb4 : Below w3.heap.size w3 W4 := by rw [hW4]; exact (Below.refl _ _).alloc (Nat.le_refl _) _
  have hs4 : W4.heap.size = w3.heap.size + 1 := by rw [hW4]; simp
  have hown4 : W4.ownsRow w3.heap.size 44 6 (.slice (some ⟨w3.heap.size, 0, none⟩) 0 0) 0 [] := by rw [hW4]; exact owns_empty _ _ _
  have hrd4 := hrd.below hb4
  generalize hn : v.list.length = n at *
  replace hn := Lib.hid hn
  subst hW4
  replace hb03 := Lib.hid hb03
  replace hs4 := Lib.hid hs4
  clear hv3 hv2 hrd0 hrd hq g0 g1 g2 g3 g4 g5 hfB hv1 hb1 hb2 hb3 hs1 hB hW1
  go_wp2_with (at_builtin; refine append_many rfl rfl eVal rfl hown4 rfl hrd4 hnil hone (by omega) (by rw [hs4.out]; omega) ?_)
  intro v5 w5 hown5 hf5 hn5
  have hb5 : Below w3.heap.size w3 w5 := Below.of_append hb4 hf5 (fun k hk => by simp [Value.ownBlock] at hk; omega) (by simp)
  have m0 := cell_below hb5 _ _ k0
  have m1 := cell_below hb5 _ _ k1
  have m2 := cell_below hb5 _ _ k2
  have m3 := cell_below hb5 _ _ k3
  have m4 := cell_below hb5 _ _ k4
  have m5 := cell_below hb5 _ _ k5
  have mf := kf.of_block (hb5.block _ hs3)
  have hs5 : w3.heap.size ≤ w5.heap.size := hb5.size
  have hnil5 : ∃ a5 c5, v5 = .slice a5 n c5 ∧ (a5 = none → c5 = 0) := by
    obtain ⟨a5, c5, rfl⟩ := (Reads.of_owns hown5).shape
    exact ⟨a5, c5, rfl, owns_nil hown5⟩
  obtain ⟨a5, c5, rfl, hnil5⟩ := hnil5
  obtain ⟨W6, hW6⟩ : ∃ W6, W6 = w5.setCell ⟨w.heap.size, 5, none⟩ (.slice a5 n c5) := ⟨_, rfl⟩
  have hf6 : Fr (fun k => k = w.heap.size) w5 W6 := by rw [hW6]; exact (Fr.refl (fun k => k = w.heap.size) w5).setCell (p := ⟨w.heap.size, 5, none⟩) (fun _ => rfl) _
  have n0 : W6.cell? ⟨w.heap.size, 0, none⟩ = some (.int .i64 v.kind) := by rw [hW6, cell_set_ne (by simp)]; exact m0
  have n1 : W6.cell? ⟨w.heap.size, 1, none⟩ = some (.string v.text) := by rw [hW6, cell_set_ne (by simp)]; exact m1
  have n2 : W6.cell? ⟨w.heap.size, 2, none⟩ = some (.int .i64 v.int) := by rw [hW6, cell_set_ne (by simp)]; exact m2
  have n3 : W6.cell? ⟨w.heap.size, 3, none⟩ = some (.float .f64 v.real) := by rw [hW6, cell_set_ne (by simp)]; exact m3
  have n4 : W6.cell? ⟨w.heap.size, 4, none⟩ = some (.bool v.flag) := by rw [hW6, cell_set_ne (by simp)]; exact m4
  have n5 : W6.cell? ⟨w.heap.size, 5, none⟩ = some (.slice a5 n c5) := by rw [hW6]; exact cell_set_eq m5
  have hown6 := owns_fr hown5 hf6 (fun k hk e => by have := (owns_block hown5 k hk).1; omega)
  have hs6 : W6.heap.size = w5.heap.size := by rw [hW6]; simp
  have hrd6 := Reads.of_owns hown6
  -- the values' own lists: they lie below the box
  have hb06 : Below w.heap.size w W6 := hb03.out.trans ((hb5.mono (Nat.le_of_lt hs3)).trans (hf6.below (by omega) (fun i hi e => by omega)))
  have hcs6 := hcs.out.mono (cell_below hb06)
  have nf : Blk W6 w.heap.size := by rw [hW6]; exact mf.setCell _ _
  have hn6 := hn5
  have hsz6 : w.heap.size < W6.heap.size := World.block_lt_of_cell? _ _ n0
  replace hW6 := Lib.hid hW6
  replace hown6 := Lib.hid hown6
  replace hcs6 := Lib.hid hcs6
  replace hb06 := Lib.hid hb06
  replace hs6 := Lib.hid hs6
  clear hb03 hs4 hb4 hown4 hrd4 hown5 hf5 hn5 hb5 hf6 k0 k1 k2 k3 k4 k5 kf
  have z5 := mf.frz 5 none
  go_upto_region 6 with fail
  rw [← hW6.out]
  clear m0 m1 m2 m3 m4 m5 mf z5
  go_cut [3] (fun s3 wx => Left W6 44 (fun a c => [.int .i64 v.kind, .string v.text, .int .i64 v.int, .float .f64 v.real, .bool v.flag, .slice a n c]) n css.flatten s3 wx)
  case first =>
    go_region_held3 (fun w' => Below W6.heap.size W6 w' ∧ ∀ b o, b < W6.heap.size → w'.cell? ⟨b, o, none⟩ = W6.cell? ⟨b, o, none⟩) (first | (with_reducible assumption) | (with_reducible exact kp_a1) | (with_reducible exact kp_a2) | (with_reducible exact kp_set6 (by with_reducible assumption) (Nat.le_succ _)) | (with_reducible exact kp_set6 (by with_reducible assumption) (Nat.le_refl _)) | (with_reducible exact kp_drew) | (with_reducible exact kp_alloc (by with_reducible assumption) _)) ((refine step6 (by rfl) (by rfl) eVal (by rfl) (by rfl) ?_ ?_ (by with_reducible assumption) hrd6 hnil5 hone (by omega) ?_; (first | exact hn1 _ _ | exact hn2 _ _ _ | exact hn3 _ _ _); (first | exact Nat.le_refl _ | exact Nat.le_succ _); intro a7 c7 w7 hown7 hS7 hf7 hn7; (first | (obtain ⟨z0, z1, z2, z3, z4, z5, y0, y1, y2, y3, y4, y5⟩ := zbox hf7 (hn3 _ _ _) (Nat.succ_ne_self _)) | (obtain ⟨z0, z1, z2, z3, z4, z5, y0, y1, y2, y3, y4, y5⟩ := zbox hf7 (hn2 _ _ _) (Nat.succ_ne_self _).symm) | skip)))
    · go_wp2_with fail
      go_meet
      exact Left.new hown7 hS7.1
    · go_wp2_with fail
      go_meet
      exact Left.set hown7 hS7.1 (Nat.le_succ _) z0 z1 z2 z3 z4 z5 (fun k hk e => by rcases hn7 k hk with h | h; omega; simp at h; omega)
    · go_wp2_with fail
      go_meet
      exact Left.set hown7 hS7.1 (Nat.le_refl _) z0 z1 z2 z3 z4 z5 (fun k hk e => by rcases hn7 k hk with h | h; omega; simp at h; omega)
  case rest =>
    obtain ⟨bw, a7, c7, rfl, hbl, hbw, hbwlt, hwas, hown7, hne7⟩ := hcut
    obtain rfl := hn.out
    have hrvw := rv_of_reads (hcs6.out.mono (cell_below hbl)) (hrd6.below hbl)
    have hrvs := rv_of_reads (hcs6.out.mono (cell_below hbl)) (Reads.of_owns hown7)
    have hcs7 := hcs6.out.mono (cell_below hbl)
    have n0 := cell_below hbl _ _ n0
    have n1 := cell_below hbl _ _ n1
    have n2 := cell_below hbl _ _ n2
    have n3 := cell_below hbl _ _ n3
    have n4 := cell_below hbl _ _ n4
    have n5 := cell_below hbl _ _ n5
    replace hwas := Lib.hid hwas
    replace hrvw := Lib.hid hrvw
    replace hrvs := Lib.hid hrvs
    replace hown7 := Lib.hid hown7
    replace hn := trivial
    go_wp2_with fail
    refine (near_new 3 _).mono ?_
    rintro e w8 ⟨nb, fp, rfl, hN, hb8, hfp⟩
    have hN : Near w8 nb fp ⟨[], [], 0, 3⟩ := hN
    have hH8 : NH wc.heap.size wc w8 nb fp ⟨[], [], 0, 3⟩ := ⟨hN, hfp, hb8, hb8.size⟩
    have hlw : w.heap.size < wc.heap.size := World.block_lt_of_cell? _ _ n0
    have six : ∀ w', Below wc.heap.size wc w' → (w'.cell? ⟨w.heap.size, 0, none⟩ = some (.int .i64 v.kind) ∧ w'.cell? ⟨w.heap.size, 1, none⟩ = some (.string v.text) ∧ w'.cell? ⟨w.heap.size, 2, none⟩ = some (.int .i64 v.int) ∧ w'.cell? ⟨w.heap.size, 3, none⟩ = some (.float .f64 v.real) ∧ w'.cell? ⟨w.heap.size, 4, none⟩ = some (.bool v.flag) ∧ w'.cell? ⟨w.heap.size, 5, none⟩ = some (.slice a5 v.list.length c5)) := fun w' hb =>
      have g : ∀ (q : Nat) u, wc.cell? ⟨w.heap.size, q, none⟩ = some u → w'.cell? ⟨w.heap.size, q, none⟩ = some u := fun q u h => by rw [hb.cell (by exact hlw)]; exact h
      ⟨g _ _ n0, g _ _ n1, g _ _ n2, g _ _ n3, g _ _ n4, g _ _ n5⟩
    have hS0 := six w8.drew (hb8.drew)
    have hH8d := hH8.below ((Below.refl w8.heap.size w8).drew)
    have hkeep : ∀ w' fp', Near w' nb fp' (NS.begin ⟨[], [], 0, 3⟩ kK) → Went w8.drew fp w' fp' → (w'.cell? ⟨w.heap.size, 0, none⟩ = some (.int .i64 v.kind) ∧ w'.cell? ⟨w.heap.size, 1, none⟩ = some (.string v.text) ∧ w'.cell? ⟨w.heap.size, 2, none⟩ = some (.int .i64 v.int) ∧ w'.cell? ⟨w.heap.size, 3, none⟩ = some (.float .f64 v.real) ∧ w'.cell? ⟨w.heap.size, 4, none⟩ = some (.bool v.flag) ∧ w'.cell? ⟨w.heap.size, 5, none⟩ = some (.slice a5 v.list.length c5)) := fun w' fp' hn hw => six w' (hH8d.step hn hw).bel
    have hkeep2 : ∀ w9 fp9 w' s' fp', Near w9 nb fp9 (NS.begin ⟨[], [], 0, 3⟩ kK) → Went w8.drew fp w9 fp9 → Near w' nb fp' s' → Went w9 fp9 w' fp' → (w'.cell? ⟨w.heap.size, 0, none⟩ = some (.int .i64 v.kind) ∧ w'.cell? ⟨w.heap.size, 1, none⟩ = some (.string v.text) ∧ w'.cell? ⟨w.heap.size, 2, none⟩ = some (.int .i64 v.int) ∧ w'.cell? ⟨w.heap.size, 3, none⟩ = some (.float .f64 v.real) ∧ w'.cell? ⟨w.heap.size, 4, none⟩ = some (.bool v.flag) ∧ w'.cell? ⟨w.heap.size, 5, none⟩ = some (.slice a5 v.list.length c5)) := fun w9 fp9 w' s' fp' hn hw hn' hw' => six w' ((hH8d.step hn hw).step hn' hw').bel
    replace hkeep := Lib.hid hkeep
    replace hkeep2 := Lib.hid hkeep2
    replace six := Lib.hid six
    replace hH8 := Lib.hid hH8
    clear hN hb8 hfp n0 n1 n2 n3 n4 n5
    go_wp2_with fail
    go_region_held3 (fun w' => w'.cell? ⟨w.heap.size, 0, none⟩ = some (.int .i64 v.kind) ∧ w'.cell? ⟨w.heap.size, 1, none⟩ = some (.string v.text) ∧ w'.cell? ⟨w.heap.size, 2, none⟩ = some (.int .i64 v.int) ∧ w'.cell? ⟨w.heap.size, 3, none⟩ = some (.float .f64 v.real) ∧ w'.cell? ⟨w.heap.size, 4, none⟩ = some (.bool v.flag) ∧ w'.cell? ⟨w.heap.size, 5, none⟩ = some (.slice a5 v.list.length c5)) (first | (with_reducible exact hS0) | exact hkeep.out _ _ (by with_reducible assumption) (by with_reducible assumption) | exact hkeep2.out _ _ _ _ _ hn9 hw9 hn10 hw10)
      (first
        | (go_at_call 28; refine (near_begin hH8d.near (by show (0 : Int) ≤ _; omega) (by show (0 : Int) ≤ 0; omega) kK).mono ?_; rintro e w9 ⟨rfl, hn9, hw9⟩)
        | (go_at_call 27; refine (near_fill_first hn9 1 (k := kK) (v := v) (a := a5) (cap := c5) rfl (by show (3 : Int) ≠ 0; omega) rfl (hrvw.out.mono (fun ad u hu => by rw [(hH8d.step hn9 hw9).bel.cell (World.block_lt_of_cell? _ _ hu)]; exact hu)) (by omega)).mono ?_; rintro e w10 ⟨fp10, rfl, hn10, hw10, vb, hc10, hV10⟩))
    obtain ⟨hH10, hg10⟩ : NH wc.heap.size wc w10 nb fp10 _ ∧ w9.heap.size ≤ w10.heap.size := ⟨(hH8d.step hn9 hw9).step hn10 hw10, hw10.1.size⟩
    have hes10 : (NS.es { (NS.without (NS.begin ⟨[], [], 0, 3⟩ kK) 1) with es := [(kK, v)] }) = [(kK, v)] := rfl
    generalize ({ (NS.without (NS.begin ⟨[], [], 0, 3⟩ kK) 1) with es := [(kK, v)] } : NS) = s10 at *
    have h69 : wc.heap.size ≤ w9.heap.size := (hH8d.step hn9 hw9).le
    have hwl : w.heap.size ≤ wc.heap.size := by have := hbl.size; omega
    have hbw0 : Below w.heap.size w wc := hb06.out.trans (hbl.mono (Nat.le_of_lt hsz6))
    have hA : AF w W6.heap.size wc.heap.size nb vb bw v css a7 c7 w10 fp10 s10 :=
      ⟨hH10.near, hes10, hc10, hbw0.trans (hH10.bel.mono hwl), hH10.le, hH10.own, ⟨hbw, hbwlt⟩, fun j u hj => by have := hwas.out j u hj; rw [hH10.bel.cell (World.block_lt_of_cell? _ _ this)]; exact this,
        (Reads.of_owns hown7.out).below hH10.bel, fun ad ha => by have := owns_blk (ha ▸ hown7.out); exact ⟨this.2.1, this.2.2.lt⟩⟩
    have hV : Vals w10 vb (List.range w9.heap.size ++ fp10) s10.es := by rw [hes10]; exact hV10
    have b5 := (six.out w10 hH10.bel).2.2.2.2.2
    have hr5 := hrd6.below hbl
    have hr5' : Reads w10 6 (.slice a5 v.list.length c5) v.list.length css.flatten := hr5.below hH10.bel
    have hg5 : ∀ ad, a5 = some ad → ad = ⟨ad.block, 0, none⟩ ∧ Blk w10 ad.block := fun ad ha => by
      have := owns_blk (ha ▸ hown6.out)
      exact ⟨this.1, (this.2.2.of_block (hbl.block _ this.2.2.lt)).of_block (hH10.bel.block _ (Nat.lt_of_lt_of_le this.2.2.lt hbl.size))⟩
    have hg5' : ∀ ad, a5 = some ad → w3.heap.size ≤ ad.block ∧ ad.block < W6.heap.size := fun ad ha => by
      have := owns_blk (ha ▸ hown6.out)
      exact ⟨this.2.1, this.2.2.lt⟩
    replace hA := Lib.hid hA
    replace hV := Lib.hid hV
    replace hg5 := Lib.hid hg5
    replace hg5' := Lib.hid hg5'
    replace hr5' := Lib.hid hr5'
    replace hcs := Lib.hid hcs.out
    clear hH10 hn10 hw10 hn9 hw9 hH8 hH8d hS0 six hkeep hkeep2 hb06 hbw0 hown6 hown7 hr5 hrd6 hbl hwas hrvw hrvs hcs7 hcs6 hV10 hc10 hes10
    by_cases hz : v.list.length = 0
    · have t0 : ¬ ((0 : Int) < (v.list.length : Int)) := by omega
      replace hz := Lib.hid hz
      clear hr5' hg5 hg5'
      go_wp2_with fail
      refine (near_getK hA.out.near kK).mono ?_
      rintro e w12 ⟨cs, fp12, rfl, hr, hn12, hw12, hk12, hwr, hwn⟩
      obtain ⟨hAy, hV12⟩ := hA.out.get hn12 hw12 hk12 hV.out hwl
      rw [hA.out.look] at hr ⊢
      simp only [Option.getD_some, Option.isSome_some] at hr ⊢
      obtain ⟨a', cap', css', rfl, _⟩ := hr.out
      rw [cells6_array]
      generalize NS.get s10 kK = s12 at *
      replace hwr := Lib.hid hwr
      replace hwn := Lib.hid hwn
      replace hV12 := Lib.hid hV12
      clear hn12 hw12 hk12 hA hV b5
      have hbx : Below (w12).heap.size w12 ((w12).alloc (.cells #[.int .i64 v.kind, .string v.text, .int .i64 v.int, .float .f64 v.real, .bool v.flag, .slice a' v.list.length cap'] 44)) := (Below.refl _ _).alloc (Nat.le_refl _) _
      have hAx := hAy.below hbx hwl
      obtain ⟨p0, p1, p2, p3, p4, p5⟩ := hAx.six
      have hra : RV ((w12).alloc (.cells #[.int .i64 v.kind, .string v.text, .int .i64 v.int, .float .f64 v.real, .bool v.flag, .slice a' v.list.length cap'] 44)).cell? (cells6 v.kind v.text v.int v.real v.flag a' v.list.length cap') v := (hr).mono (fun a u h => cell_below hbx _ _ (newer_all _ _ h))
      have hrb := hAx.rvs hcs.out
      have bx5 : ((w12).alloc (.cells #[.int .i64 v.kind, .string v.text, .int .i64 v.int, .float .f64 v.real, .bool v.flag, .slice a' v.list.length cap'] 44)).cell? ⟨(w12).heap.size, 5, none⟩ = some (.slice a' v.list.length cap') := by rw [World.cell?_alloc_new]; rfl
      have bxf : Blk ((w12).alloc (.cells #[.int .i64 v.kind, .string v.text, .int .i64 v.int, .float .f64 v.real, .bool v.flag, .slice a' v.list.length cap'] 44)) (w12).heap.size := Blk.new _ _ _
      replace bx5 := Lib.hid bx5
      replace hra := Lib.hid hra
      replace hrb := Lib.hid hrb
      replace hAx := Lib.hid hAx
      replace hAy := Lib.hid hAy
      go_wp2_with fail
      refine (same03_any v v a' v.list.length cap' a7 v.list.length c7 _ hra.out hrb.out (by omega)).mono ?_
      rintro e w14 ⟨q, rfl, hq, hb14⟩
      obtain rfl : q = true := hq.2 rfl
      have hA14 := hAx.out.below hb14 hwl
      clear p0 p1 p2 p3 p4 p5 hq hAx hrb
      have c5' := cell_below hb14 _ _ bx5.out
      go_wp2_with fail
      refine (near_peekK hA14.near kK).mono ?_
      rintro e w16 ⟨cs2, rfl, hr2, hb16, _⟩
      have hAy := hA14.below hb16 hwl
      rw [hA14.look] at hr2 ⊢
      simp only [Option.getD_some, Option.isSome_some] at hr2 ⊢
      obtain ⟨a2, cap2, css2, rfl, _⟩ := hr2.out
      rw [cells6_array]
      clear hA14 c5' bx5 hb14 hra
      have hbx : Below (w16).heap.size w16 ((w16).alloc (.cells #[.int .i64 v.kind, .string v.text, .int .i64 v.int, .float .f64 v.real, .bool v.flag, .slice a2 v.list.length cap2] 44)) := (Below.refl _ _).alloc (Nat.le_refl _) _
      have hAx := hAy.below hbx hwl
      obtain ⟨p0, p1, p2, p3, p4, p5⟩ := hAx.six
      have hra : RV ((w16).alloc (.cells #[.int .i64 v.kind, .string v.text, .int .i64 v.int, .float .f64 v.real, .bool v.flag, .slice a2 v.list.length cap2] 44)).cell? (cells6 v.kind v.text v.int v.real v.flag a2 v.list.length cap2) v := (hr2).mono (fun a u h => cell_below hbx _ _ (newer_all _ _ h))
      have hrb := hAx.rvs hcs.out
      have bx5 : ((w16).alloc (.cells #[.int .i64 v.kind, .string v.text, .int .i64 v.int, .float .f64 v.real, .bool v.flag, .slice a2 v.list.length cap2] 44)).cell? ⟨(w16).heap.size, 5, none⟩ = some (.slice a2 v.list.length cap2) := by rw [World.cell?_alloc_new]; rfl
      have bxf : Blk ((w16).alloc (.cells #[.int .i64 v.kind, .string v.text, .int .i64 v.int, .float .f64 v.real, .bool v.flag, .slice a2 v.list.length cap2] 44)) (w16).heap.size := Blk.new _ _ _
      replace bx5 := Lib.hid bx5
      replace hra := Lib.hid hra
      replace hrb := Lib.hid hrb
      replace hAx := Lib.hid hAx
      replace hAy := Lib.hid hAy
      go_wp2_with fail
      refine (same03_any v v a2 v.list.length cap2 a7 v.list.length c7 _ hra.out hrb.out (by omega)).mono ?_
      rintro e w14 ⟨q, rfl, hq, hb14⟩
      obtain rfl : q = true := hq.2 rfl
      have hA14 := hAx.out.below hb14 hwl
      clear p0 p1 p2 p3 p4 p5 hq hAx hrb
      go_wp2
      go_ret
      exact ⟨rfl, hA14.bel⟩
    · have t0 : (0 : Int) < (v.list.length : Int) := by omega
      replace hz := Lib.hid hz
      have t1 : 0 < v.list.length := by omega
      obtain ⟨g, rfl, ht, hglt⟩ := row_there hr5'.out t1 hg5.out
      obtain ⟨hg1, hg2⟩ := hg5'.out _ rfl
      simp only at hg1 hg2
      obtain ⟨W11, hW11⟩ : ∃ W, W = ((((((w10.setCell ⟨g, 0, none⟩ (.int .i64 99)).setCell ⟨g, 1, none⟩ (.string ⟨#[]⟩)).setCell ⟨g, 2, none⟩ (.int .i64 0)).setCell ⟨g, 3, none⟩ (.float .f64 0)).setCell ⟨g, 4, none⟩ (.bool false)).setCell ⟨g, 5, none⟩ (.slice none 0 0)) := ⟨_, rfl⟩
      have hf11 : Fr (fun k => k = g) w10 W11 := by rw [hW11]; exact Fr.setCells (S := fun k => k = g) (fun _ => rfl) [.int .i64 99, .string ⟨#[]⟩, .int .i64 0, .float .f64 0, .bool false, .slice none 0 0] 0 w10 (Fr.refl _ _)
      obtain ⟨hA11, hV11⟩ := hA.out.set hf11 (by omega) (Or.inl hg2) (fun hm => by have := hA.out.own _ hm; omega) hV.out (List.mem_range.2 (by omega)) hwl
      obtain ⟨⟨z0, z1, z2, z3, z4, z5, r0, r1, r2, r3, r4, r5⟩, y0, y1, y2, y3, y4, y5⟩ := there_six ht
      replace hW11 := Lib.hid hW11
      clear hf11 hg5 hg5' hr5'
      replace hA := Lib.hid hA11
      replace hV := Lib.hid hV11
      clear hA11 hV11
      clear ht
      go_wp2_with fail
      rw [← hW11.out]
      clear r0 r1 r2 r3 r4 r5 y0 y1 y2 y3 y4 y5
      go_wp2_with fail
      refine (near_getK hA.out.near kK).mono ?_
      rintro e w12 ⟨cs, fp12, rfl, hr, hn12, hw12, hk12, hwr, hwn⟩
      have hleL := Lib.hid hA.out.le
      obtain ⟨hAy, hV12⟩ := hA.out.get hn12 hw12 hk12 hV.out hwl
      rw [hA.out.look] at hr ⊢
      simp only [Option.getD_some, Option.isSome_some] at hr ⊢
      obtain ⟨a', cap', css', rfl, _⟩ := hr.out
      rw [cells6_array]
      generalize NS.get s10 kK = s12 at *
      replace hwr := Lib.hid hwr
      replace hwn := Lib.hid hwn
      replace hV12 := Lib.hid hV12
      clear hn12 hw12 hk12 hA hV b5
      have hbx : Below (w12).heap.size w12 ((w12).alloc (.cells #[.int .i64 v.kind, .string v.text, .int .i64 v.int, .float .f64 v.real, .bool v.flag, .slice a' v.list.length cap'] 44)) := (Below.refl _ _).alloc (Nat.le_refl _) _
      have hAx := hAy.below hbx hwl
      obtain ⟨p0, p1, p2, p3, p4, p5⟩ := hAx.six
      have hra : RV ((w12).alloc (.cells #[.int .i64 v.kind, .string v.text, .int .i64 v.int, .float .f64 v.real, .bool v.flag, .slice a' v.list.length cap'] 44)).cell? (cells6 v.kind v.text v.int v.real v.flag a' v.list.length cap') v := (hr).mono (fun a u h => cell_below hbx _ _ (newer_all _ _ h))
      have hrb := hAx.rvs hcs.out
      have bx5 : ((w12).alloc (.cells #[.int .i64 v.kind, .string v.text, .int .i64 v.int, .float .f64 v.real, .bool v.flag, .slice a' v.list.length cap'] 44)).cell? ⟨(w12).heap.size, 5, none⟩ = some (.slice a' v.list.length cap') := by rw [World.cell?_alloc_new]; rfl
      have bxf : Blk ((w12).alloc (.cells #[.int .i64 v.kind, .string v.text, .int .i64 v.int, .float .f64 v.real, .bool v.flag, .slice a' v.list.length cap'] 44)) (w12).heap.size := Blk.new _ _ _
      replace bx5 := Lib.hid bx5
      replace hra := Lib.hid hra
      replace hrb := Lib.hid hrb
      replace hAx := Lib.hid hAx
      replace hAy := Lib.hid hAy
      go_wp2_with fail
      refine (same03_any v v a' v.list.length cap' a7 v.list.length c7 _ hra.out hrb.out (by omega)).mono ?_
      rintro e w14 ⟨q, rfl, hq, hb14⟩
      obtain rfl : q = true := hq.2 rfl
      have hA14 := hAx.out.below hb14 hwl
      clear p0 p1 p2 p3 p4 p5 hq hAx hrb
      have c5' := cell_below hb14 _ _ bx5.out
      have hbe14 : Below w12.heap.size w12 w14 := ((Below.refl w12.heap.size w12).alloc (Nat.le_refl _) _).trans (hb14.mono (by simp))
      replace hbe14 := Lib.hid hbe14
      have hrd14 := (reads_of_rv hra.out)
      obtain ⟨css3, _, hrd14⟩ := hrd14
      have hrd14 := hrd14.below hb14
      have hbk : ∀ ad, a' = some ad → ad = ⟨ad.block, 0, none⟩ ∧ Blk w14 ad.block := fun ad ha => by
        obtain ⟨q1, q2, q3⟩ := hwr.out ad v.list.length cap' (by rw [ha]; rfl)
        exact ⟨q1, (q3.of_block (((Below.refl w12.heap.size w12).alloc (Nat.le_refl _) _).block _ q3.lt)).of_block (hb14.block _ (Nat.lt_of_lt_of_le q3.lt (by simp)))⟩
      obtain ⟨g', rfl, ht', hglt'⟩ := row_there hrd14 t1 hbk
      obtain ⟨_, hg3, _⟩ := hwr.out _ _ _ rfl
      have hg4 := hwn.out _ _ _ rfl
      simp only at hg3 hg4
      have hV14 : Vals w14 vb ([g'] ++ fp12) s12.es := (hV12.out [g'] (fun b hb => by simp at hb; omega)).of_block (hbe14.out.block _ (hV12.out [] (fun b hb => by cases hb)).lt) (off_below hbe14.out)
      obtain ⟨W15, hW15⟩ : ∃ W, W = ((((((w14.setCell ⟨g', 0, none⟩ (.int .i64 98)).setCell ⟨g', 1, none⟩ (.string ⟨#[]⟩)).setCell ⟨g', 2, none⟩ (.int .i64 0)).setCell ⟨g', 3, none⟩ (.float .f64 0)).setCell ⟨g', 4, none⟩ (.bool false)).setCell ⟨g', 5, none⟩ (.slice none 0 0)) := ⟨_, rfl⟩
      have hf15 : Fr (fun k => k = g') w14 W15 := by rw [hW15]; exact Fr.setCells (S := fun k => k = g') (fun _ => rfl) [.int .i64 98, .string ⟨#[]⟩, .int .i64 0, .float .f64 0, .bool false, .slice none 0 0] 0 w14 (Fr.refl _ _)
      obtain ⟨hA15, _⟩ := hA14.set hf15 (by have := hleL.out; omega) (Or.inr (by have := hleL.out; omega)) hg4 hV14 (by simp) hwl
      obtain ⟨⟨z0, z1, z2, z3, z4, z5, r0, r1, r2, r3, r4, r5⟩, y0, y1, y2, y3, y4, y5⟩ := there_six ht'
      replace hW15 := Lib.hid hW15
      replace hA14 := Lib.hid hA15
      clear hf15 hA15 hV14 hrd14 hbk hg4
      clear ht'
      go_wp2_with fail
      rw [← hW15.out]
      clear r0 r1 r2 r3 r4 r5 y0 y1 y2 y3 y4 y5
      replace hA14 := hA14.out
      go_wp2_with fail
      refine (near_peekK hA14.near kK).mono ?_
      rintro e w16 ⟨cs2, rfl, hr2, hb16, _⟩
      have hAy := hA14.below hb16 hwl
      rw [hA14.look] at hr2 ⊢
      simp only [Option.getD_some, Option.isSome_some] at hr2 ⊢
      obtain ⟨a2, cap2, css2, rfl, _⟩ := hr2.out
      rw [cells6_array]
      clear hA14 c5' bx5 hb14 hra
      have hbx : Below (w16).heap.size w16 ((w16).alloc (.cells #[.int .i64 v.kind, .string v.text, .int .i64 v.int, .float .f64 v.real, .bool v.flag, .slice a2 v.list.length cap2] 44)) := (Below.refl _ _).alloc (Nat.le_refl _) _
      have hAx := hAy.below hbx hwl
      obtain ⟨p0, p1, p2, p3, p4, p5⟩ := hAx.six
      have hra : RV ((w16).alloc (.cells #[.int .i64 v.kind, .string v.text, .int .i64 v.int, .float .f64 v.real, .bool v.flag, .slice a2 v.list.length cap2] 44)).cell? (cells6 v.kind v.text v.int v.real v.flag a2 v.list.length cap2) v := (hr2).mono (fun a u h => cell_below hbx _ _ (newer_all _ _ h))
      have hrb := hAx.rvs hcs.out
      have bx5 : ((w16).alloc (.cells #[.int .i64 v.kind, .string v.text, .int .i64 v.int, .float .f64 v.real, .bool v.flag, .slice a2 v.list.length cap2] 44)).cell? ⟨(w16).heap.size, 5, none⟩ = some (.slice a2 v.list.length cap2) := by rw [World.cell?_alloc_new]; rfl
      have bxf : Blk ((w16).alloc (.cells #[.int .i64 v.kind, .string v.text, .int .i64 v.int, .float .f64 v.real, .bool v.flag, .slice a2 v.list.length cap2] 44)) (w16).heap.size := Blk.new _ _ _
      replace bx5 := Lib.hid bx5
      replace hra := Lib.hid hra
      replace hrb := Lib.hid hrb
      replace hAx := Lib.hid hAx
      replace hAy := Lib.hid hAy
      go_wp2_with fail
      refine (same03_any v v a2 v.list.length cap2 a7 v.list.length c7 _ hra.out hrb.out (by omega)).mono ?_
      rintro e w14 ⟨q, rfl, hq, hb14⟩
      obtain rfl : q = true := hq.2 rfl
      have hA14 := hAx.out.below hb14 hwl
      clear p0 p1 p2 p3 p4 p5 hq hAx hrb
      go_wp2
      go_ret
      exact ⟨rfl, hA14.bel⟩
end Go.Proofs.Ytlddjcfbapdjnaa
