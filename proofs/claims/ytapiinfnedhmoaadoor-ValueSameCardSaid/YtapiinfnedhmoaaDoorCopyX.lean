/- A value copied: its list lies in a row of the call's own, and what its values' lists hold lies elsewhere. -/
import Derived.Test.YtapiinfnedhmoaaDoorVal
namespace Go.Proofs.YtapiinfnedhmoaaDoor
open Go.RowKit

set_option maxRecDepth 100000 in
set_option maxHeartbeats 3200000 in
theorem copy_rows (v : V) (k : Int) (t : ByteArray) (i : Int) (r : Nat) (f : Bool) (a : Option Addr) (n cap : Nat) (w : World) (hv : RV w.cell? (cells6 k t i r f a n cap) v) (hcnt : v.count ≤ 100000000) :
    Calls Tryd.prog 22 #[.agg #[.int .i64 k, .string t, .int .i64 i, .float .f64 r, .bool f, .slice a n cap]] w fun e w' =>
      ∃ (a' : Option Addr) (cap' : Nat) (css : List (List Value)), e = .returned (.agg #[.int .i64 k, .string t, .int .i64 i, .float .f64 r, .bool f, .slice a' n cap']) ∧ w'.ownsRow (w.heap.size + 2) 25 6 (.slice a' n cap') n css.flatten ∧
        RVs (nf (w.heap.size + 2) (Value.ownBlock (.slice a' n cap')) w') css v.list ∧ Below w.heap.size w w' := by
  obtain ⟨rfl, rfl, rfl, rfl, rfl, hnl⟩ := hv.len
  have hll : v.list.length < v.count := by cases v; have := V.length_le (V.list (.mk ‹_› ‹_› ‹_› ‹_› ‹_› ‹_›)); simp only [V.count, V.list] at this ⊢; omega
  have hnb : n < 100000000 := by omega
  replace hnl := Lib.hid hnl
  clear hll
  obtain ⟨W2, hW2⟩ : ∃ W2, W2 = (w.alloc (.cells #[.int .i64 v.kind, .string v.text, .int .i64 v.int, .float .f64 v.real, .bool v.flag, .slice a n cap] 25)).alloc (.cells #[.int .i64 0, .string ⟨#[]⟩, .int .i64 0, .float .f64 0, .bool false, .slice none 0 0] 25) := ⟨_, rfl⟩
  have hb2 : Below w.heap.size w W2 := by rw [hW2]; exact ((Below.refl _ _).alloc (Nat.le_refl _) _).alloc (by simp) _
  have hs2 : W2.heap.size = w.heap.size + 2 := by rw [hW2]; simp
  have hB : ∀ q u, #[.int .i64 v.kind, .string v.text, .int .i64 v.int, .float .f64 v.real, .bool v.flag, .slice a n cap][q]? = some u → W2.cell? ⟨w.heap.size, q, none⟩ = some u := fun q u h => by rw [hW2, World.cell?_alloc_past _ _ _ (by simp), World.cell?_alloc_new]; exact h
  have hC : ∀ q u, #[.int .i64 0, .string ⟨#[]⟩, .int .i64 0, .float .f64 0, .bool false, .slice none 0 0][q]? = some u → W2.cell? ⟨w.heap.size + 1, q, none⟩ = some u := fun q u h => by
    rw [hW2, show w.heap.size + 1 = (w.alloc (.cells #[.int .i64 v.kind, .string v.text, .int .i64 v.int, .float .f64 v.real, .bool v.flag, .slice a n cap] 25)).heap.size by simp, World.cell?_alloc_new]; exact h
  have hfB : Blk W2 w.heap.size := by rw [hW2]; exact (Blk.new w _ _).fr (S := fun _ => False) ((Fr.refl _ _).alloc _) (fun h => h)
  have hfC : Blk W2 (w.heap.size + 1) := by rw [hW2, show w.heap.size + 1 = (w.alloc (.cells #[.int .i64 v.kind, .string v.text, .int .i64 v.int, .float .f64 v.real, .bool v.flag, .slice a n cap] 25)).heap.size by simp]; exact Blk.new _ _ _
  replace hW2 := Lib.hid hW2
  replace hs2 := Lib.hid hs2
  replace hB := Lib.hid hB
  replace hC := Lib.hid hC
  go_enter Tryd.func22, Tryd.ntmps22
  go_wp2_with fail
  rw [← hW2.out]
  go_loopw [3, 9] (fun s3 i wr => ∃ (j : Nat) (css : List (List Value)), j ≤ n ∧ i = .int .i64 j ∧ wr.ownsRow (w.heap.size + 2) 25 6 s3 j css.flatten ∧ RVs (nf (w.heap.size + 2) s3.ownBlock wr) css (v.list.take j) ∧ Below W2.heap.size W2 wr) (fun _ i _ => n - (intOf i).toNat)
  case atStart => exact ⟨0, [], Nat.zero_le _, rfl, World.ownsRow_nil _ _ _ _, RVs.nil _, Below.refl _ _⟩
  case round =>
    obtain ⟨j, css, hj, rfl, hown, hrs, hbel⟩ := hrel
    have hbel0 := hb2.trans (hbel.mono (by rw [hs2.out]; omega))
    by_cases hlt : j < n
    · obtain ⟨b, o, hjv, a', cap', rfl, hx, d0, d1, d2, d3, d4, d5⟩ := hv.elem hlt
      have hbw := World.block_lt_of_cell? _ _ d0
      have up : ∀ (q : Nat) u, w.cell? ⟨b, q, none⟩ = some u → wr.cell? ⟨b, q, none⟩ = some u := fun q u h => by rw [hbel0.cell (by exact hbw)]; exact h
      replace d0 := up _ _ d0
      replace d1 := up _ _ d1
      replace d2 := up _ _ d2
      replace d3 := up _ _ d3
      replace d4 := up _ _ d4
      replace d5 := up _ _ d5
      have hts : v.list.take (j + 1) = v.list.take j ++ [v.list[j]] := List.take_succ_eq_append_getElem hjv
      have hmem : v.list[j] ∈ v.list := List.getElem_mem hjv
      have hxc : (v.list[j]).count ≤ 100000000 := by
        have := V.count_mem hmem
        have : V.countL v.list ≤ v.count := by cases v; simp only [V.count, V.list]; omega
        omega
      obtain ⟨x, hxe⟩ : ∃ x, x = v.list[j] := ⟨_, rfl⟩
      rw [← hxe] at hx d0 d1 d2 d3 d4 d5 hts hmem hxc
      have hx' := hx.mono (cell_below (hbel0.trans ((Below.refl wr.heap.size wr).alloc (Nat.le_refl _) (.cells #[.int .i64 x.kind, .string x.text, .int .i64 x.int, .float .f64 x.real, .bool x.flag, .slice a' x.list.length cap'] 25) |>.mono hbel0.size)))
      replace hts := Lib.hid hts
      replace hmem := Lib.hid hmem
      replace hx' := Lib.hid hx'
      replace hxe := Lib.hid hxe
      replace hxc := Lib.hid hxc
      have hws : w.heap.size + 2 ≤ wr.heap.size := by have := hbel.size; rw [hs2.out] at this; exact this
      clear up hx hv
      go_wp2_with fail
      refine (copy_anyK x _ _ _ _ _ _ _ _ _ hx'.out hxc.out).mono ?_
      rintro e w3 ⟨a3, c3, rfl, hr3, hb3, _⟩
      have hb3' : Below wr.heap.size wr w3 := ((Below.refl _ _).alloc (Nat.le_refl _) _).trans (hb3.mono (by simp))
      have hown3 := owns_fr hown (Fr.of_below hb3') (fun k hk => by have := (owns_block hown k hk).2; omega)
      have hown3b := owns_block hown
      have hrs3 := hrs.mono (nf_below (B := w.heap.size + 2) (own := u3.ownBlock) hb3')
      have hr3' := hr3.mono (nf_of_newer (B := w.heap.size + 2) (own := u3.ownBlock) (by simp; omega) (fun k hk => by have := (hown3b k hk).2; simp; omega))
      have hws3 : w.heap.size + 2 ≤ w3.heap.size := Nat.le_trans hws hb3'.size
      have hbel3 : Below W2.heap.size W2 w3 := hbel.trans (hb3'.mono hbel.size)
      replace hown3b := Lib.hid hown3b
      clear hr3 hb3 hb3' hown hrs hbel hbel0 d0 d1 d2 d3 d4 d5 hws
      have hjn9 : j < 1000000000 := by omega
      go_wp2_with (at_builtin; refine append_elem_at rfl rfl eVal rfl hown3 rfl rfl rfl hjn9 hws3 ?_)
      intro v' w4 hown4 hf4 hn4
      have hbel4 : Below W2.heap.size W2 w4 := Below.of_append hbel3 hf4 (fun k hk => by have := (hown3b.out k hk).1; rw [hs2.out]; exact this) (by rw [hs2.out]; exact hws3)
      have hrs4 := (hrs3.snoc hr3').mono (nf_append hf4 hn4)
      clear hown3 hrs3 hr3' hbel3 hf4 hn4
      go_wp2
      go_roundw
      case rel => exact ⟨j + 1, css ++ [cells6 x.kind x.text x.int x.real x.flag a3 x.list.length c3], by omega, by go_num, by simpa [cells6] using hown4, by rw [hts.out]; exact hrs4, hbel4⟩
      case measure => simp [intOf]; omega
    · have hjn : j = n := by omega
      subst hjn
      rw [hnl.out, List.take_length] at hrs
      obtain ⟨a3, c3, rfl⟩ := (Reads.of_owns hown).shape
      have up : ∀ (b q : Nat) u, b < w.heap.size + 2 → W2.cell? ⟨b, q, none⟩ = some u → wr.cell? ⟨b, q, none⟩ = some u := fun b q u hlt h => by rw [hbel.cell (by rw [hs2.out]; exact hlt)]; exact h
      have e0 := up _ _ _ (by omega) (hB.out 0 _ rfl)
      have e1 := up _ _ _ (by omega) (hB.out 1 _ rfl)
      have e2 := up _ _ _ (by omega) (hB.out 2 _ rfl)
      have e3 := up _ _ _ (by omega) (hB.out 3 _ rfl)
      have e4 := up _ _ _ (by omega) (hB.out 4 _ rfl)
      have e5 := up _ _ _ (by omega) (hB.out 5 _ rfl)
      have g0 := up _ _ _ (by omega) (hC.out 0 _ rfl)
      have g1 := up _ _ _ (by omega) (hC.out 1 _ rfl)
      have g2 := up _ _ _ (by omega) (hC.out 2 _ rfl)
      have g3 := up _ _ _ (by omega) (hC.out 3 _ rfl)
      have g4 := up _ _ _ (by omega) (hC.out 4 _ rfl)
      have g5 := up _ _ _ (by omega) (hC.out 5 _ rfl)
      have fB := hfB.of_block (hbel.block _ (by rw [hs2.out]; omega))
      have fC := hfC.of_block (hbel.block _ (by rw [hs2.out]; omega))
      have hr := RV.of_row hnl.out hown (hrs.mono (nf_newer))
      clear up hv
      have z5 := fB.frz 5 none
      have hrA : (wr.setCell ⟨w.heap.size, 5, none⟩ (.slice a3 j c3)).rangeAt w.heap.size 0 [.int .i64 v.kind, .string v.text, .int .i64 v.int, .float .f64 v.real, .bool v.flag, .slice a3 j c3] :=
        range6 (by rw [cell_set_ne (by simp)]; exact e0) (by rw [cell_set_ne (by simp)]; exact e1) (by rw [cell_set_ne (by simp)]; exact e2) (by rw [cell_set_ne (by simp)]; exact e3) (by rw [cell_set_ne (by simp)]; exact e4) (cell_set_eq e5)
      have hrC : (wr.setCell ⟨w.heap.size, 5, none⟩ (.slice a3 j c3)).rangeAt (w.heap.size + 1) 0 [.int .i64 0, .string ⟨#[]⟩, .int .i64 0, .float .f64 0, .bool false, .slice none 0 0] :=
        range6 (by rw [cell_set_ne (by simp)]; exact g0) (by rw [cell_set_ne (by simp)]; exact g1) (by rw [cell_set_ne (by simp)]; exact g2) (by rw [cell_set_ne (by simp)]; exact g3) (by rw [cell_set_ne (by simp)]; exact g4) (by rw [cell_set_ne (by simp)]; exact g5)
      have htC := there_of (n := 6) hrC (fC.setCell _ _) rfl
      have hrR : (((wr.setCell ⟨w.heap.size, 5, none⟩ (.slice a3 j c3)).setCells (w.heap.size + 1) 0 [.int .i64 v.kind, .string v.text, .int .i64 v.int, .float .f64 v.real, .bool v.flag, .slice a3 j c3])).rangeAt (w.heap.size + 1) 0 [.int .i64 v.kind, .string v.text, .int .i64 v.int, .float .f64 v.real, .bool v.flag, .slice a3 j c3] :=
        World.rangeAt_setCells_same _ _ _ _ htC
      have hfin : Fr (fun k => k = w.heap.size ∨ k = w.heap.size + 1) wr ((wr.setCell ⟨w.heap.size, 5, none⟩ (.slice a3 j c3)).setCells (w.heap.size + 1) 0 [.int .i64 v.kind, .string v.text, .int .i64 v.int, .float .f64 v.real, .bool v.flag, .slice a3 j c3]) :=
        Fr.setCells (fun _ => Or.inr rfl) _ _ _ ((Fr.refl _ wr).setCell (fun _ => Or.inl rfl) _)
      replace hrA := Lib.hid hrA
      replace hrC := Lib.hid hrC
      replace htC := Lib.hid htC
      replace hrR := Lib.hid hrR
      replace hr := Lib.hid hr
      go_wp2_with (first
        | (refine wpList_load_mid rfl 25 _ rfl w.heap.size 0 rfl _ _ hrA.out Tryd.underlying25 rfl infoVal ?_)
        | (refine wpList_store_mid rfl 25 _ _ rfl (w.heap.size + 1) 0 _ rfl rfl htC.out infoVal (one6 _ _ _ _ _ _ _ _) ?_))
      refine bodyPost_ret (results_cell1 (v := .agg #[.int .i64 v.kind, .string v.text, .int .i64 v.int, .float .f64 v.real, .bool v.flag, .slice a3 j c3]) rfl rfl (run_loadVar_mid (P := Tryd.prog) _ _ 0 25 _ _ hrR.out Tryd.underlying25 rfl infoVal)) rfl ⟨a3, c3, css, rfl, ?_, ?_, ?_⟩
      · exact owns_fr hown hfin (fun q hq => by have := (owns_block hown q hq).1; omega)
      · exact hrs.mono (fun ad u h => let ⟨h1, h2, h3⟩ := nf_cell h; nf_mk (hfin.cell h1 (fun e => by omega)) h2 h3)
      · exact hbel0.trans (hfin.below hbel0.size (fun i hi h => by omega))

/-- One text of a copied list is written anew: the value that is then read. -/
theorem RV.touch {B : Nat} {w : World} {v : V} {e : TypeId} {k n c : Nat} {css : List (List Value)} (hn : n = v.list.length) (hown : w.ownsRow B e 6 (.slice (some ⟨k, 0, none⟩) n c) n css.flatten) (hrs : RVs (nf B (some k) w) css v.list)
    {x : V} {rest : List V} (hl : v.list = x :: rest) (t' : ByteArray) :
    w.cell? ⟨k, 1, none⟩ = some (.string x.text) ∧ RV (w.setCell ⟨k, 1, none⟩ (.string t')).cell? (cells6 v.kind v.text v.int v.real v.flag (some ⟨k, 0, none⟩) n c) (.mk v.kind v.text v.int v.real v.flag (.mk x.kind t' x.int x.real x.flag x.list :: rest)) := by
  have hlen := hrs.1
  rw [hl] at hlen
  match css, hlen, hrs, hown with
  | cs0 :: csr, hlen, hrs, hown =>
  have h6 := hrs.len6
  have hx := hrs.2 0 cs0 x rfl (by rw [hl]; rfl)
  obtain ⟨ax, cx, cssx, rfl, hcx, hrx, hlx⟩ := hx.out
  have hR := Reads.of_owns hown
  have hold : ∀ (j : Nat) (y : List Value), (cells6 x.kind x.text x.int x.real x.flag ax x.list.length cx :: csr)[j]? = some y → ∀ (q : Nat) (u : Value), y[q]? = some u → w.cell? ⟨k, j * 6 + q, none⟩ = some u := by
    intro j y hy q u hu
    have hjl := (List.getElem?_eq_some_iff.1 hy).1
    have hy6 : y.length = 6 := h6 y (List.mem_of_getElem? hy)
    obtain ⟨b, o, ha, hc⟩ := hR.at (j := j * 6) (by rw [flat_len h6]; omega)
    simp only [Option.some.injEq, Addr.mk.injEq, and_true] at ha
    obtain ⟨rfl, rfl⟩ := ha
    have h1 := hc _ _ (flat_at h6 j y hy q u hu)
    rwa [Nat.zero_add] at h1
  have hset : ∀ ad u, ad ≠ ⟨k, 1, none⟩ → w.cell? ad = some u → (w.setCell ⟨k, 1, none⟩ (.string t')).cell? ad = some u := fun ad u hne h => by rw [cell_set_ne (fun e => hne e.symm)]; exact h
  have hnfm : ∀ ad u, nf B (some k) w ad = some u → (w.setCell ⟨k, 1, none⟩ (.string t')).cell? ad = some u := fun ad u h => by
    obtain ⟨h1, h2, h3⟩ := nf_cell h
    exact hset ad u (fun e => h3 (by rw [e])) h1
  have h01 : w.cell? ⟨k, 1, none⟩ = some (.string x.text) := hold 0 _ rfl 1 _ rfl
  refine ⟨h01, ?_⟩
  refine RV.mk v.kind v.text v.int v.real v.flag (some ⟨k, 0, none⟩) n c (.mk x.kind t' x.int x.real x.flag x.list :: rest) (cells6 x.kind t' x.int x.real x.flag ax x.list.length cx :: csr) (by rw [hn, hl]; rfl) (by simpa using hlen) (fun j y hy => ?_) (fun j y z hy hz => ?_)
  · refine ⟨k, 0, rfl, fun q u hu => ?_⟩
    rw [Nat.zero_add]
    cases j with
    | zero =>
      simp only [List.getElem?_cons_zero, Option.some.injEq] at hy
      subst hy
      by_cases hq : q = 1
      · subst hq
        have : u = .string t' := by simpa [cells6] using hu.symm
        subst this
        exact cell_set_eq h01
      · refine hset _ _ (by simp [hq]) (hold 0 _ rfl q u ?_)
        rw [← hu]
        match q, hq with
        | 0, _ => rfl
        | q + 2, _ => rfl
    | succ j => exact hset _ _ (by simp only [ne_eq, Addr.mk.injEq, true_and, and_true]; omega) (hold (j + 1) y (by simpa using hy) q u hu)
  · cases j with
    | zero =>
      simp only [List.getElem?_cons_zero, Option.some.injEq] at hy hz
      subst hy; subst hz
      exact RV.mk x.kind t' x.int x.real x.flag ax _ cx x.list cssx rfl hcx (fun j y hy => let ⟨b, o, ha, hq⟩ := hrx j y hy; ⟨b, o, ha, fun q u hu => hnfm _ _ (hq q u hu)⟩) (fun j y z hy hz => (hlx j y z hy hz).mono hnfm)
    | succ j => exact (hrs.2 (j + 1) y z (by simpa using hy) (by rw [hl]; simpa using hz)).mono hnfm
end Go.Proofs.YtapiinfnedhmoaaDoor
