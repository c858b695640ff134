/- The statements of layer 10: their walks. -/
import Derived.Test.YtlddjcfbapdjnaaRef10
import Derived.Deep.DeepCutAuto
import Derived.Deep.RegionHeld3
import Derived.Deep.CutBlock
namespace Go.Proofs.Ytlddjcfbapdjnaa
open Go.RowKit

theorem Rec.lt {w : World} {r m : Nat} {ks : List ByteArray} {ns : List Nat} (h : Rec w r m ks ns) : ∀ b ∈ r :: m :: ns, b < w.heap.size := fun b hb => by
  simp only [List.mem_cons] at hb
  rcases hb with rfl | rfl | hb
  · exact h.ring.lt _ (by simp)
  · exact h.mlt
  · exact h.ring.lt _ (by simp [hb])
theorem Rec.below {w w' : World} {r m : Nat} {ks : List ByteArray} {ns : List Nat} (h : Rec w r m ks ns) (hb : Below w.heap.size w w') : Rec w' r m ks ns :=
  h.fr (Fr.of_below hb) (fun b hb' hle => by have := h.lt b hb'; omega)

/-- A ring of the call's own, from B on; below B nothing has turned. -/
structure St (B : Nat) (w0 w : World) (r m : Nat) (ks : List ByteArray) (ns : List Nat) : Prop where
  rc : Rec w r m ks ns
  own : ∀ b ∈ r :: m :: ns, B ≤ b
  bel : Below B w0 w
  le : B ≤ w.heap.size
theorem St.step {B : Nat} {w0 w w' : World} {r m : Nat} {ks ks' : List ByteArray} {ns ns' : List Nat} (h : St B w0 w r m ks ns) (hr : Rec w' r m ks' ns') (hf : Fr (· ∈ r :: m :: ns) w w') (hn : NewOf w ns ns') : St B w0 w' r m ks' ns' :=
  ⟨hr, fun b hb => by
    simp only [List.mem_cons] at hb
    rcases hb with rfl | rfl | hb
    · exact h.own _ (by simp)
    · exact h.own _ (by simp)
    · rcases hn b hb with h1 | h1
      · exact h.own _ (by simp [h1])
      · exact Nat.le_trans h.le h1,
   h.bel.trans (hf.below h.le (fun i hi hm => by have := h.own i hm; omega)), Nat.le_trans h.le hf.size⟩
theorem St.below {B : Nat} {w0 w w' : World} {r m : Nat} {ks : List ByteArray} {ns : List Nat} (h : St B w0 w r m ks ns) (hb : Below w.heap.size w w') : St B w0 w' r m ks ns :=
  ⟨h.rc.below hb, h.own, h.bel.trans (hb.mono h.le), Nat.le_trans h.le hb.size⟩

/-- The slice v reads as the texts xs, and lies apart from the blocks in fp. -/
def LS (w : World) (v : Value) (xs : List ByteArray) (fp : List Nat) : Prop :=
  ∃ a cap, v = .slice a xs.length cap ∧ Reads w 1 v xs.length (xs.map Value.string) ∧ ∀ b o s, a = some ⟨b, o, s⟩ → b ∉ fp ∧ b < w.heap.size
theorem LS.fr {w w' : World} {v : Value} {xs : List ByteArray} {fp fp' : List Nat} (h : LS w v xs fp) (hf : Fr (· ∈ fp) w w') (hn : ∀ b ∈ fp', b ∈ fp ∨ w.heap.size ≤ b) : LS w' v xs fp' := by
  obtain ⟨a, cap, rfl, hr, hs⟩ := h
  refine ⟨a, cap, rfl, hr.fr hf (fun a' m c e => ?_), fun b o s e => ?_⟩
  · cases e; exact (hs a'.block a'.off a'.spot rfl).1
  · obtain ⟨h1, h2⟩ := hs b o s e
    refine ⟨fun hm => ?_, Nat.lt_of_lt_of_le h2 hf.size⟩
    rcases hn b hm with h | h
    · exact h1 h
    · omega
theorem LS.of_owns {w : World} {B e : Nat} {v : Value} {xs : List ByteArray} {fp : List Nat} (h : w.ownsRow B e 1 v xs.length (xs.map Value.string)) (hfp : ∀ b ∈ fp, b < B) : LS w v xs fp := by
  have hr := Reads.of_owns h
  obtain ⟨a, cap, rfl⟩ := hr.shape
  refine ⟨a, cap, rfl, hr, fun b o s e => ?_⟩
  have := owns_block h b (by subst e; rfl)
  exact ⟨fun hm => by have := hfp b hm; omega, this.2⟩
theorem newOf_fp {w : World} {r m : Nat} {ns ns' : List Nat} (hn : NewOf w ns ns') : ∀ b ∈ r :: m :: ns', b ∈ r :: m :: ns ∨ w.heap.size ≤ b := by
  intro b hb
  simp only [List.mem_cons] at hb ⊢
  rcases hb with h | h | h
  · simp [h]
  · simp [h]
  · rcases hn b h with h | h
    · simp [h]
    · exact Or.inr h

theorem LS.shape {w : World} {v : Value} {xs : List ByteArray} {fp : List Nat} (h : LS w v xs fp) : ∃ a cap, v = .slice a xs.length cap := let ⟨a, cap, e, _⟩ := h; ⟨a, cap, e⟩
theorem LS.reads {w : World} {v : Value} {xs : List ByteArray} {fp : List Nat} (h : LS w v xs fp) : Reads w 1 v xs.length (xs.map Value.string) := let ⟨_, _, _, r, _⟩ := h; r
theorem LS.nil (w : World) (fp : List Nat) : LS w (.slice none 0 0) [] fp := ⟨none, 0, rfl, Reads.nil w 1 none 0, fun b o s e => by cases e⟩
theorem LS.below {w w' : World} {v : Value} {xs : List ByteArray} {fp : List Nat} (h : LS w v xs fp) (hb : Below w.heap.size w w') : LS w' v xs fp := by
  obtain ⟨a, cap, rfl, hr, hs⟩ := h
  exact ⟨a, cap, rfl, hr.below hb, fun b o s e => ⟨(hs b o s e).1, Nat.lt_of_lt_of_le (hs b o s e).2 hb.size⟩⟩
theorem St.step' {B : Nat} {w0 w w' : World} {r m m' : Nat} {ks ks' : List ByteArray} {ns ns' : List Nat} (h : St B w0 w r m ks ns) (hr : Rec w' r m' ks' ns') (hf : Fr (· ∈ r :: m :: ns) w w') (hn : ∀ b ∈ m' :: ns', b ∈ m :: ns ∨ w.heap.size ≤ b) : St B w0 w' r m' ks' ns' :=
  ⟨hr, fun b hb => by
    rcases List.mem_cons.1 hb with rfl | hb
    · exact h.own _ (by simp)
    · rcases hn b hb with h1 | h1
      · exact h.own _ (List.mem_cons_of_mem _ h1)
      · exact Nat.le_trans h.le h1,
   h.bel.trans (hf.below h.le (fun i hi hm => by have := h.own i hm; omega)), Nat.le_trans h.le hf.size⟩
theorem clear_rec {w : World} {r m : Nat} {ks : List ByteArray} {ns : List Nat} (h : Rec w r m ks ns) :
    Calls Try.prog 14 #[P0 r] w fun e w' => e = .returned (.tuple #[]) ∧ Rec w' r w.heap.size [] [] ∧ Fr (· ∈ [r]) w w' := by
  obtain ⟨a, b, ha, hb, h2⟩ := h.ring.at 0 (by omega)
  simp at ha; subst ha
  have hlk := h.ring.linked
  obtain ⟨xs, z, hz⟩ := cut_last r ns
  have e1 : r :: ns ++ [r] = xs ++ z :: [r] := by rw [hz]; simp
  rw [e1] at hlk
  have h1 := (linked_append.1 hlk).2.2.1
  exact clear_any h.ring.root h1 h2 h.links (h.ring.blk r (by simp))

theorem touch_len (ks : List ByteArray) (k : ByteArray) : (touch ks k).length ≤ ks.length + 1 := by
  simp only [touch, List.length_append, List.length_cons, List.length_nil]
  have := List.length_filter_le (fun x : ByteArray => decide (x ≠ k)) ks
  omega

abbrev kA : ByteArray := ⟨#[97]⟩
abbrev kB : ByteArray := ⟨#[98]⟩
abbrev kX : ByteArray := ⟨#[120]⟩
theorem ta : touch [] kA = [kA] := by decide
theorem tb : touch [kA] kB = [kA, kB] := by decide
theorem tc : touch [kA, kB] kA = [kB, kA] := by decide
theorem nilEq (b : Nat) (w : World) : (binOp .eql 24 (P0 b) (.pointer none)).run Try.prog w = .ok (.bool false) w := by
  simp [go_sem]

set_option maxHeartbeats 1600000 in
theorem alive10_any (w : World) : Calls Try.prog 10 #[] w fun e w' => e = .returned (.bool true) ∧ Below w.heap.size w w' := by
  go_enter Try.func10, Try.ntmps10
  go_wp2_with fail
  refine (new_any w).mono ?_
  rintro e w1 ⟨r, m, rfl, hR, hb1, hr, hm⟩
  have hS : St w.heap.size w w1 r m [] [] := ⟨hR, by simp [hr, hm], hb1, hb1.size⟩
  clear hR hb1 hr hm
  go_wp2_with fail
  refine (touch_new hS.rc (k := kA) (by decide)).mono ?_
  rintro e w2 ⟨rfl, ns, hR, hf, hn⟩
  have hS2 := hS.step hR hf hn
  rw [ta] at hS2
  clear hS hR hf hn
  go_wp2_with fail
  refine (touch_new hS2.rc (k := kB) (by decide)).mono ?_
  rintro e w3 ⟨rfl, ns3, hR, hf, hn⟩
  have hS3 := hS2.step hR hf hn
  rw [tb] at hS3
  clear hS2 hR hf hn
  go_wp2_with fail
  refine (touch_was hS3.rc (k := kA) (by decide)).mono ?_
  rintro e w4 ⟨rfl, ns4, hR, hf, hn⟩
  have hS4 := hS3.step hR hf hn
  rw [tc] at hS4
  clear hS3 hR hf hn
  go_wp2_with fail
  refine (oldest_any hS4.rc kX).mono ?_
  rintro e w5 ⟨rfl, n, rfl⟩
  have hS5 := hS4.below (Below.drewN (m := n) (Below.refl _ _))
  clear hS4
  have o1 : (oldest kX [kB, kA]).1 = kB := by decide
  have o2 : (oldest kX [kB, kA]).2 = true := by decide
  rw [o1, o2]
  clear o1 o2
  go_wp2_with fail
  refine (len_any hS5.rc).mono ?_
  rintro e w6 ⟨rfl, rfl⟩
  go_wp2_with fail
  refine (has_any hS5.rc kA).mono ?_
  rintro e w6 ⟨rfl, rfl⟩
  have o3 : decide (kA ∈ [kB, kA]) = true := by decide
  rw [o3]
  go_wp2
  go_ret
  exact ⟨rfl, hS5.bel⟩

/-! ### inside a region that draws its order -/
theorem keepS {w0 w w' : World} {a : Addr} {v : Value} (h : Below w0.heap.size w0 w ∧ w.cell? a = some v) (hb : Below w.heap.size w w') : Below w0.heap.size w0 w' ∧ w'.cell? a = some v :=
  ⟨h.1.trans (hb.mono h.1.size), by rw [hb.cell (World.block_lt_of_cell? _ _ h.2)]; exact h.2⟩
theorem Rec.held {w0 w : World} {a : Addr} {v : Value} {r m : Nat} {ks : List ByteArray} {ns : List Nat} (h : Rec w0 r m ks ns) (hS : Below w0.heap.size w0 w ∧ w.cell? a = some v) : Rec w r m ks ns := h.below hS.1
theorem Reads.held {w0 w : World} {a : Addr} {u : Value} {size n : Nat} {v : Value} {xs : List Value} (h : Reads w0 size v n xs) (hS : Below w0.heap.size w0 w ∧ w.cell? a = some u) : Reads w size v n xs := h.below hS.1
theorem same06_b {w : World} {a b : Option Addr} {n m ca cb : Nat} {xs ys : List ByteArray} (hx : Reads w 1 (.slice a n ca) n (xs.map Value.string)) (hy : Reads w 1 (.slice b m cb) m (ys.map Value.string)) (hn : n ≤ 1000000000) (hm : m ≤ 1000000000) :
    Calls Try.prog 22 #[.slice a n ca, .slice b m cb] w fun e w' => e = .returned (.bool (decide (xs = ys))) ∧ Below w.heap.size w w' :=
  (same06_any hx hy hn hm).mono fun e w' ⟨h, k, hw⟩ => ⟨h, by rw [hw]; exact Below.drewN (Below.refl _ _)⟩
theorem oldest_b {w : World} {r m : Nat} {ks : List ByteArray} {ns : List Nat} (h : Rec w r m ks ns) (but : ByteArray) :
    Calls Try.prog 17 #[P0 r, .string but] w fun e w' => e = .returned (.tuple #[.string (oldest10 but ks).1, .bool (oldest10 but ks).2]) ∧ Below w.heap.size w w' :=
  (oldest_any h but).mono fun e w' ⟨h1, k, hw⟩ => ⟨by rw [h1, oldest_eq but h.ksnd], by rw [hw]; exact Below.drewN (Below.refl _ _)⟩
theorem St.held {B : Nat} {w00 w0 w : World} {a : Addr} {v : Value} {r m : Nat} {ks : List ByteArray} {ns : List Nat} (h : St B w00 w0 r m ks ns) (hS : Below w0.heap.size w0 w ∧ w.cell? a = some v) : St B w00 w r m ks ns := h.below hS.1
theorem LS.held {w0 w : World} {a : Addr} {u v : Value} {xs : List ByteArray} {fp : List Nat} (h : LS w0 v xs fp) (hS : Below w0.heap.size w0 w ∧ w.cell? a = some u) : LS w v xs fp := h.below hS.1
end Go.Proofs.Ytlddjcfbapdjnaa
