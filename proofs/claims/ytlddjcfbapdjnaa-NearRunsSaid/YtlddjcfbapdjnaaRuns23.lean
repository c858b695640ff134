/- NearRuns: what is kept near, beside the document's answer: its frame. -/
import Derived.Test.YtlddjcfbapdjnaaAv
import Derived.Test.YtlddjcfbapdjnaaRef23F
import Derived.Test.YtlddjcfbapdjnaaStale
namespace Go.Proofs.Ytlddjcfbapdjnaa
open Go.RowKit

theorem Av.NStr.avs {w w' : World} {nb rb m vb tb : Nat} {ns fp av av' : List Nat} {ks : List ByteArray} {s : NS} (h : Av.NStr w nb rb m vb tb ns fp av ks s) (hf : Fr (· ∈ av) w w') (hd : ∀ b ∈ fp, b ∉ av) (hn : ∀ b ∈ av', b ∈ av ∨ w.heap.size ≤ b) (hlt : ∀ b ∈ av', b < w'.heap.size) : Av.NStr w' nb rb m vb tb ns fp av' ks s := by
  have hm := fun b hb => hd b (by rw [h.efp]; exact hb)
  have hn' : ¬ nb ∈ av := hm _ (by simp)
  have hf2 : Fr (· ∈ fp ++ av) w w' := hf.mono (fun b _ hb => List.mem_append_right _ hb)
  exact ⟨h.efp, hf.cell h.c0 hn', hf.cell h.c1 hn', hf.cell h.c2 hn', hf.cell h.c3 hn', hf.cell h.c4 hn', h.blk.fr hf hn', h.rc.fr hf (fun b hb => hm b (by simp at hb ⊢; rcases hb with h | h | h <;> simp [h])),
    h.vals.of_block (hf.block _ h.vals.lt (hm _ (by simp))) (Proofs.Ytlddjcfbapdjnaa.off_fr hf2 (fun b hb => (List.mem_append.1 hb).elim (fun h => Or.inl (List.mem_append_left _ h)) (fun h => (hn b h).elim (fun h => Or.inl (List.mem_append_right _ h)) Or.inr))),
    h.tix.of_block (hf.block _ h.tix.lt (hm _ (by simp))), h.apart, h.nv, h.nt, h.vt, h.tlt, h.most0, hlt⟩
theorem Av.Near.nodup {w : World} {nb : Nat} {fp av : List Nat} {s : NS} (h : Av.Near w nb fp av s) : (s.es.map (·.1)).Nodup ∧ (s.ts.map (·.1)).Nodup := let ⟨_, _, _, _, _, h⟩ := h; ⟨h.vals.nodup, h.tix.nodup⟩

/-- Both, beside each other. -/
structure JR (w wr : World) (nb : Nat) (fp : List Nat) (r : Nat) (sE sT : Value) (sN sR : NS) : Prop where
  near : Av.Near wr nb fp (rfp r sE sT) sN
  rn : RN w.cell? wr r sE sT sR
  ownN : ∀ b ∈ fp, w.heap.size ≤ b
  ownR : ∀ b ∈ rfp r sE sT, w.heap.size ≤ b
  apart : ∀ b ∈ fp, b ∉ rfp r sE sT
  bel : Below w.heap.size w wr
theorem JR.le {w wr : World} {nb : Nat} {fp : List Nat} {r : Nat} {sE sT : Value} {sN sR : NS} (h : JR w wr nb fp r sE sT sN sR) : w.heap.size ≤ wr.heap.size := h.bel.size
theorem JR.below {w wr w' : World} {nb : Nat} {fp : List Nat} {r : Nat} {sE sT : Value} {sN sR : NS} (h : JR w wr nb fp r sE sT sN sR) (hb : Below wr.heap.size wr w') : JR w w' nb fp r sE sT sN sR :=
  ⟨h.near.below hb, h.rn.below hb, h.ownN, h.ownR, h.apart, h.bel.trans (hb.mono h.le)⟩
theorem JR.stepN {w wr w' : World} {nb : Nat} {fp fp' : List Nat} {r : Nat} {sE sT : Value} {sN sN' sR : NS} (h : JR w wr nb fp r sE sT sN sR) (hn : Av.Near w' nb fp' (rfp r sE sT) sN') (hw : Went wr fp w' fp') : JR w w' nb fp' r sE sT sN' sR := by
  refine ⟨hn, h.rn.fr hw.1 (fun b hb hm => h.apart b hm hb), fun b hb => ?_, h.ownR, fun b hb hm => ?_, h.bel.trans (hw.1.below h.le (fun i hi hm => by have := h.ownN i hm; omega))⟩
  · rcases hw.2 b hb with h1 | h1
    · exact h.ownN b h1
    · exact Nat.le_trans h.le h1
  · rcases hw.2 b hb with h1 | h1
    · exact h.apart b h1 hm
    · have := (h.rn.lt b hm).2; omega
theorem JR.stepR {w wr w' : World} {nb : Nat} {fp : List Nat} {r : Nat} {sE sT sE' sT' : Value} {sN sR sR' : NS} (h : JR w wr nb fp r sE sT sN sR) (hn : RN w.cell? w' r sE' sT' sR') (hw : Went wr (rfp r sE sT) w' (rfp r sE' sT')) : JR w w' nb fp r sE' sT' sN sR' := by
  obtain ⟨rb, m, vb, tb, ns, hh⟩ := h.near
  refine ⟨⟨rb, m, vb, tb, ns, hh.avs hw.1 h.apart hw.2 (fun b hb => (hn.lt b hb).2)⟩, hn, h.ownN, fun b hb => ?_, fun b hb hm => ?_, h.bel.trans (hw.1.below h.le (fun i hi hm => by have := h.ownR i hm; omega))⟩
  · rcases hw.2 b hb with h1 | h1
    · exact h.ownR b h1
    · exact Nat.le_trans h.le h1
  · rcases hw.2 b hm with h1 | h1
    · exact h.apart b hb h1
    · have := hh.lt b hb; omega
/-- A cell of neither. -/
theorem JR.outN {w wr w' : World} {nb : Nat} {fp fp' : List Nat} {r : Nat} {sE sT : Value} {sN sR : NS} (_ : JR w wr nb fp r sE sT sN sR) (hw : Went wr fp w' fp') {b o : Nat} {u : Value} (hc : wr.cell? ⟨b, o, none⟩ = some u) (hb : b ∉ fp) : w'.cell? ⟨b, o, none⟩ = some u ∧ b ∉ fp' :=
  ⟨hw.1.cell hc hb, fun hm => by
    rcases hw.2 b hm with h1 | h1
    · exact hb h1
    · have : b < wr.heap.size := World.block_lt_of_cell? wr ⟨b, o, none⟩ hc
      omega⟩

/-- How much there is of it. -/
structure PL (s : NS) (k : Nat) : Prop where
  last0 : 0 ≤ s.last
  lastk : s.last ≤ k
  es : s.es.length ≤ k
  ts : s.ts.length ≤ k
  cnt : ∀ p ∈ s.es, p.2.count ≤ 100000000
theorem PL.next {s : NS} {k : Nat} (h : PL s k) : PL s (k + 1) := ⟨h.last0, by have := h.lastk; omega, by have := h.es; omega, by have := h.ts; omega, h.cnt⟩
theorem PL.begin {s : NS} {k : Nat} (h : PL s k) (key : ByteArray) : PL (s.begin key) (k + 1) :=
  ⟨by have := h.last0; show 0 ≤ s.last + 1; omega, by have := h.lastk; show s.last + 1 ≤ _; omega, by have := h.es; show s.es.length ≤ _; omega, by have := h.ts; show (s.ts ++ [_]).length ≤ _; simp; omega, h.cnt⟩
theorem PL.get {s : NS} {k : Nat} (h : PL s k) (key : ByteArray) : PL (s.get key) (k + 1) := by
  cases hl : lookE s.es key with
  | none => rw [show s.get key = s by simp [NS.get, hl]]; exact h.next
  | some v =>
    rw [show s.get key = { s with es := s.es.filter (fun p => p.1 ≠ key) ++ [(key, v)] } by simp [NS.get, hl]]
    refine ⟨h.last0, by have := h.lastk; show s.last ≤ _; omega, ?_, by have := h.ts; show s.ts.length ≤ _; omega, fun p hp => ?_⟩
    · have := List.length_filter_le (fun p : ByteArray × V => decide (p.1 ≠ key)) s.es
      have := h.es
      show (_ ++ [_]).length ≤ _
      rw [List.length_append]; simp only [List.length_singleton]; omega
    · rcases List.mem_append.1 hp with hp | hp
      · exact h.cnt p (List.mem_filter.1 hp).1
      · simp at hp; subst hp; exact h.cnt _ (lookE_mem hl)
theorem PL.drop {s : NS} {k : Nat} (h : PL s k) (key : ByteArray) : PL (s.drop key) (k + 1) := by
  refine ⟨h.last0, by have := h.lastk; show s.last ≤ _; omega, ?_, ?_, fun p hp => h.cnt p (List.mem_filter.1 hp).1⟩
  · have := List.length_filter_le (fun p : ByteArray × V => decide (p.1 ≠ key)) s.es
    have := h.es
    show (s.es.filter _).length ≤ _; omega
  · have := List.length_filter_le (fun p : Int × ByteArray => decide (p.2 ≠ key)) s.ts
    have := h.ts
    show (s.ts.filter _).length ≤ _; omega
theorem PL.clear {s : NS} {k : Nat} (h : PL s k) : PL s.clear (k + 1) := ⟨h.last0, by have := h.lastk; show s.last ≤ _; omega, Nat.zero_le _, Nat.zero_le _, fun p hp => by cases hp⟩
theorem PL.fill {s : NS} {k : Nat} (h : PL s k) (t : Int) (v : V) (hv : v.count ≤ 100000000) : PL (s.fill t v) (k + 1) := by
  have hw : PL (s.without t) (k + 1) := ⟨h.last0, by have := h.lastk; show s.last ≤ _; omega, by have := h.es; show s.es.length ≤ _; omega, by
    have := List.length_filter_le (fun p : Int × ByteArray => decide (p.1 ≠ t)) s.ts
    have := h.ts
    show (s.ts.filter _).length ≤ _; omega, h.cnt⟩
  unfold NS.fill
  split
  · exact hw
  · split
    · exact hw
    · rename_i key _ _
      have hl : (putE s.es key v).length ≤ k + 1 := by
        have := List.length_filter_le (fun p : ByteArray × V => decide (p.1 ≠ key)) s.es
        have := h.es
        rw [putE, List.length_append]; simp only [List.length_singleton]; omega
      have hc : ∀ p ∈ putE s.es key v, p.2.count ≤ 100000000 := fun p hp => by
        rcases List.mem_append.1 hp with hp | hp
        · exact h.cnt p (List.mem_filter.1 hp).1
        · simp at hp; subst hp; exact hv
      refine ⟨hw.last0, hw.lastk, ?_, hw.ts, fun p hp => ?_⟩
      · show (if _ then _ else _ : List (ByteArray × V)).length ≤ _
        split
        · rw [List.length_tail]; show (putE s.es key v).length - 1 ≤ _; omega
        · exact hl
      · have hp' : p ∈ (if (s.without t).most < ((putE (s.without t).es key v).length : Int) then (putE (s.without t).es key v).tail else putE (s.without t).es key v) := hp
        split at hp'
        · exact hc p (List.mem_of_mem_tail hp')
        · exact hc p hp'
end Go.Proofs.Ytlddjcfbapdjnaa
