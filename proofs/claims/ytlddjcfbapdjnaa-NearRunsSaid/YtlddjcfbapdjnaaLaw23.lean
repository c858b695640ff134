/- The statements of layer 23: what they share. -/
import Derived.Test.YtlddjcfbapdjnaaNearC
import Derived.Test.YtlddjcfbapdjnaaSame03
import Derived.Deep.DeepCutAuto
import Derived.Deep.CutBlock
namespace Go.Proofs.Ytlddjcfbapdjnaa
open Go.RowKit

/-- What is near, of the call's own, from B on; below B nothing has turned. -/
structure NH (B : Nat) (w0 w : World) (nb : Nat) (fp : List Nat) (s : NS) : Prop where
  near : Near w nb fp s
  own : ∀ b ∈ fp, B ≤ b
  bel : Below B w0 w
  le : B ≤ w.heap.size
theorem NH.step {B : Nat} {w0 w w' : World} {nb : Nat} {fp fp' : List Nat} {s s' : NS} (h : NH B w0 w nb fp s) (hn : Near w' nb fp' s') (hw : Went w fp w' fp') : NH B w0 w' nb fp' s' :=
  ⟨hn, fun b hb => by
    rcases hw.2 b hb with h1 | h1
    · exact h.own b h1
    · exact Nat.le_trans h.le h1, h.bel.trans (hw.1.below h.le (fun i hi hm => by have := h.own i hm; omega)), Nat.le_trans h.le hw.1.size⟩
theorem NH.below {B : Nat} {w0 w w' : World} {nb : Nat} {fp : List Nat} {s : NS} (h : NH B w0 w nb fp s) (hb : Below w.heap.size w w') : NH B w0 w' nb fp s :=
  ⟨h.near.below hb, h.own, h.bel.trans (hb.mono h.le), Nat.le_trans h.le hb.size⟩
/-- A box of the call's own, apart from what is near. -/
structure Box (w : World) (b : Nat) (fp : List Nat) (cs : List Value) : Prop where
  cells : w.rangeAt b 0 cs
  lt : b < w.heap.size
  out : b ∉ fp
theorem Box.went {w w' : World} {b : Nat} {fp fp' : List Nat} {cs : List Value} (h : Box w b fp cs) (hw : Went w fp w' fp') : Box w' b fp' cs :=
  ⟨fun j v hv => hw.1.cell (h.cells j v hv) h.out, Nat.lt_of_lt_of_le h.lt hw.1.size, fun hm => by
    rcases hw.2 b hm with h1 | h1
    · exact h.out h1
    · have := h.lt; omega⟩
theorem Box.below {w w' : World} {b : Nat} {fp : List Nat} {cs : List Value} (h : Box w b fp cs) (hb : Below w.heap.size w w') : Box w' b fp cs :=
  ⟨fun j v hv => cell_below hb _ _ (h.cells j v hv), Nat.lt_of_lt_of_le h.lt hb.size, h.out⟩
theorem Box.six {w : World} {b : Nat} {fp : List Nat} {c0 c1 c2 c3 c4 c5 : Value} (h : Box w b fp [c0, c1, c2, c3, c4, c5]) :
    w.cell? ⟨b, 0, none⟩ = some c0 ∧ w.cell? ⟨b, 1, none⟩ = some c1 ∧ w.cell? ⟨b, 2, none⟩ = some c2 ∧ w.cell? ⟨b, 3, none⟩ = some c3 ∧ w.cell? ⟨b, 4, none⟩ = some c4 ∧ w.cell? ⟨b, 5, none⟩ = some c5 := by
  have h := h.cells
  exact ⟨by simpa using h 0 _ rfl, by simpa using h 1 _ rfl, by simpa using h 2 _ rfl, by simpa using h 3 _ rfl, by simpa using h 4 _ rfl, by simpa using h 5 _ rfl⟩
theorem Box.new {w : World} {fp : List Nat} (hlt : ∀ b ∈ fp, b < w.heap.size) (cs : List Value) (t : TypeId) : Box (w.alloc (.cells cs.toArray t)) w.heap.size fp cs :=
  ⟨fun j v hv => by rw [World.cell?_alloc_new]; simpa using hv, by simp, fun hm => by have := hlt _ hm; omega⟩
theorem nilEq23 (b : Nat) (w : World) : (binOp .eql 46 (P0 b) (.pointer none)).run Try.prog w = .ok (.bool false) w := by
  simp [go_sem]

abbrev kK : ByteArray := ⟨#[107]⟩
abbrev vV : V := .mk 4 ⟨#[118]⟩ 0 0 false []
theorem a1 : NS.begin ⟨[], [], 0, 5⟩ kK = ⟨[], [(1, kK)], 1, 5⟩ := rfl
theorem a2 : NS.drop ⟨[], [(1, kK)], 1, 5⟩ kK = ⟨[], [], 1, 5⟩ := by simp [NS.drop]
theorem a3 : NS.begin ⟨[], [], 1, 5⟩ kK = ⟨[], [(2, kK)], 2, 5⟩ := rfl
theorem a4 : NS.fill ⟨[], [(2, kK)], 2, 5⟩ 1 vV = ⟨[], [(2, kK)], 2, 5⟩ := by simp [NS.fill, lookT, NS.without]
theorem a5 : NS.fill ⟨[], [(2, kK)], 2, 5⟩ 2 vV = ⟨[(kK, vV)], [], 2, 5⟩ := by simp [NS.fill, lookT, NS.without, NS.put, putE]
theorem a6 : NS.fill ⟨[(kK, vV)], [], 2, 5⟩ 2 vV = ⟨[(kK, vV)], [], 2, 5⟩ := by simp [NS.fill, lookT, NS.without]
theorem a7 : NS.get ⟨[(kK, vV)], [], 2, 5⟩ kK = ⟨[(kK, vV)], [], 2, 5⟩ := by simp [NS.get, lookE]
theorem f4 : NS.fills ⟨[], [(2, kK)], 2, 5⟩ 1 = false := by simp [NS.fills, lookT]
theorem f5 : NS.fills ⟨[], [(2, kK)], 2, 5⟩ 2 = true := by simp [NS.fills, lookT]
theorem f6 : NS.fills ⟨[(kK, vV)], [], 2, 5⟩ 2 = false := by simp [NS.fills, lookT]

set_option maxHeartbeats 3200000 in
theorem alive23_any (w : World) : Calls Try.prog 24 #[] w fun e w' => e = .returned (.bool true) ∧ Below w.heap.size w w' := by
  have hnil := nilEq23
  go_enter Try.func24, Try.ntmps24
  go_wp2_with fail
  refine (near_new 5 w).mono ?_
  rintro e w1 ⟨nb, fp, rfl, hN, hb, hfp⟩
  have hN : Near w1 nb fp ⟨[], [], 0, 5⟩ := hN
  have h1 : NH w.heap.size w w1 nb fp _ := ⟨hN, hfp, hb, hb.size⟩
  clear hN hb hfp
  go_wp2_with fail
  refine (near_begin h1.near (by show (0 : Int) ≤ _; omega) (by show (0 : Int) ≤ 0; omega) kK).mono ?_
  rintro e w2 ⟨rfl, hn, hw⟩
  have h2 := h1.step hn hw
  rw [a1] at h2
  clear h1 hn hw
  go_wp2_with fail
  refine (near_drop h2.near kK).mono ?_
  rintro e w3 ⟨fp3, rfl, hn, hw⟩
  have h3 := h2.step hn hw
  rw [a2] at h3
  clear h2 hn hw
  go_wp2_with fail
  refine (near_begin h3.near (by show (1 : Int) ≤ _; omega) (by show (0 : Int) ≤ 1; omega) kK).mono ?_
  rintro e w4 ⟨rfl, hn, hw⟩
  have h4 := h3.step hn hw
  rw [a3] at h4
  clear h3 hn hw
  have hbx := Box.new h4.near.lt [.int .i64 4, .string ⟨#[118]⟩, .int .i64 0, .float .f64 0, .bool false, .slice none 0 0] 44
  have h5 := h4.below ((Below.refl w4.heap.size w4).alloc (Nat.le_refl _) (.cells [.int .i64 4, .string ⟨#[118]⟩, .int .i64 0, .float .f64 0, .bool false, .slice none 0 0].toArray 44))
  have rv : ∀ c, RV c (cells6 vV.kind vV.text vV.int vV.real vV.flag none vV.list.length 0) vV := fun c => RV.leaf _ _ _ _ _ _ _ _
  replace hbx := Lib.hid hbx
  replace h5 := Lib.hid h5
  replace h4 := Lib.hid h4
  go_wp2_with (first
    | (refine wpList_load_mid rfl 44 _ rfl w4.heap.size 0 rfl _ _ hbx.out.cells Try.underlying44 rfl infoVal ?_))
  refine (near_fill h5.out.near 1 (v := vV) (a := none) (cap := 0) (rv _) (by decide)).mono ?_
  rintro e w6 ⟨fp6, rfl, hn, hw⟩
  have h6 := h5.out.step hn hw
  have bx6 := hbx.out.went hw
  rw [a4] at h6
  rw [f4]
  replace h6 := Lib.hid h6
  replace bx6 := Lib.hid bx6
  clear h5 hbx hn hw
  obtain ⟨q0, q1, q2, q3, q4, q5⟩ := bx6.out.six
  go_wp2_with fail
  clear q0 q1 q2 q3 q4 q5
  refine (near_fill h6.out.near 2 (v := vV) (a := none) (cap := 0) (rv _) (by decide)).mono ?_
  rintro e w7 ⟨fp7, rfl, hn, hw⟩
  have h7 := h6.out.step hn hw
  have bx7 := bx6.out.went hw
  rw [a5] at h7
  rw [f5]
  replace h7 := Lib.hid h7
  replace bx7 := Lib.hid bx7
  clear h6 bx6 hn hw
  obtain ⟨q0, q1, q2, q3, q4, q5⟩ := bx7.out.six
  go_wp2_with fail
  clear q0 q1 q2 q3 q4 q5
  refine (near_fill h7.out.near 2 (v := vV) (a := none) (cap := 0) (rv _) (by decide)).mono ?_
  rintro e w8 ⟨fp8, rfl, hn, hw⟩
  have h8 := h7.out.step hn hw
  rw [a6] at h8
  rw [f6]
  replace h8 := Lib.hid h8
  clear h7 bx7 hn hw
  go_wp2_with fail
  refine (near_get h8.out.near kK).mono ?_
  rintro e w9 ⟨cs, fp9, rfl, hr, hn, hw⟩
  have h9 := h8.out.step hn hw
  rw [a7] at h9
  have htx : (vV.text.toList == [118]) = true := by first | decide | kernel_rfl
  have hlk : lookE [(kK, vV)] kK = some vV := by simp [lookE]
  simp only [hlk, Option.isSome_some, Option.getD_some] at hr ⊢
  obtain ⟨a, cap, css, rfl, _⟩ := hr.out
  replace h9 := Lib.hid h9
  clear h8 hn hw hr hlk
  rw [cells6_array]
  go_wp2_with fail
  have h10 := h9.out.below ((Below.refl w9.heap.size w9).alloc (Nat.le_refl _) (.cells #[.int .i64 vV.kind, .string vV.text, .int .i64 vV.int, .float .f64 vV.real, .bool vV.flag, .slice a vV.list.length cap] 44))
  replace h10 := Lib.hid h10
  refine (near_len h10.out.near).mono ?_
  rintro e w10 ⟨rfl, rfl⟩
  go_wp2_with fail
  refine (near_tickets h10.out.near).mono ?_
  rintro e w10 ⟨rfl, rfl⟩
  go_wp2
  go_ret
  exact ⟨rfl, h10.out.bel⟩
end Go.Proofs.Ytlddjcfbapdjnaa
