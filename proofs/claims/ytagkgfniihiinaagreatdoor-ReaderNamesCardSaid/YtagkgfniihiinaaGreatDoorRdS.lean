/- The reader: a value that is a line. -/
import Derived.Test.YtagkgfniihiinaaGreatDoorRdG
import Derived.Test.YtagkgfniihiinaaGreatDoorMeas
namespace Go.Proofs.YtagkgfniihiinaaGreatDoor
open Go.RowKit

def leafV (k : Int) (t : ByteArray) (i : Int) (r : Nat) (f : Bool) : V := .mk k t i r f []
theorem leaf_check (k : Int) (t : ByteArray) (i : Int) (r : Nat) (f : Bool) (hk : listK k = false) : checkZ (leafV k t i r f) = if okV (leafV k t i r f) = true then 0 else 31 := by
  unfold checkZ leafV
  have h : V.fine (.mk k t i r f []) 8 = okV (.mk k t i r f []) := by simp [V.fine, V.fineL, hk]
  rw [h]
  simp [V.count, V.countL]
theorem leaf_any (k : Int) (t : ByteArray) (i : Int) (r : Nat) (f : Bool) (hk : listK k = false) (ht : t.size ≤ 9223372036854775807) (w : World) :
    Calls Tryz.prog 69 #[.agg #[.int .i64 k, .string t, .int .i64 i, .float .f64 r, .bool f, .slice none 0 0]] w fun e w' => e = .returned (.int .i64 (if okV (leafV k t i r f) = true then 0 else 31)) ∧ Below w.heap.size w w' := by
  rw [← leaf_check k t i r f hk]
  exact check_any (leafV k t i r f) none 0 w (RV.leaf _ _ _ _ _ _ _ _) ((V.sized_eq _).2 ⟨ht, trivial⟩) (by simp [leafV, V.count, V.countL])
/-- What reading a line's value comes to: its cells, or no frame. -/
def ShortQ (o : Option V) (w : World) (e : Ending) (w' : World) : Prop :=
  (match o with
    | some v => if okV v = true then e = .returned (.agg #[.int .i64 v.kind, .string v.text, .int .i64 v.int, .float .f64 v.real, .bool v.flag, .slice none 0 0]) else e = stopE 51
    | none => e = stopE 51) ∧ Below w.heap.size w w'
theorem shortQ_ok {v : V} {w w' : World} {e : Ending} (ok : okV v = true) (h : e = .returned (.agg #[.int .i64 v.kind, .string v.text, .int .i64 v.int, .float .f64 v.real, .bool v.flag, .slice none 0 0])) (hb : Below w.heap.size w w') : ShortQ (some v) w e w' := by
  unfold ShortQ; dsimp only; rw [if_pos ok]; exact ⟨h, hb⟩
theorem shortQ_no {v : V} {w w' : World} {e : Ending} (ok : ¬ okV v = true) (h : e = stopE 51) (hb : Below w.heap.size w w') : ShortQ (some v) w e w' := by
  unfold ShortQ; dsimp only; rw [if_neg ok]; exact ⟨h, hb⟩
theorem shortQ_none {w w' : World} {e : Ending} (h : e = stopE 51) (hb : Below w.heap.size w w') : ShortQ none w e w' := ⟨h, hb⟩
/-- Two values side by side: one of noughts, one that is filled. -/
structure Two (w W : World) (k : Int) (t : ByteArray) (i : Int) (r : Nat) (f : Bool) : Prop where
  zero : W.rangeAt w.heap.size 0 [.int .i64 0, .string ⟨#[]⟩, .int .i64 0, .float .f64 0, .bool false, .slice none 0 0]
  full : W.rangeAt (w.heap.size + 1) 0 [.int .i64 k, .string t, .int .i64 i, .float .f64 r, .bool f, .slice none 0 0]
  blk : Blk W w.heap.size
  blk1 : Blk W (w.heap.size + 1)
  below : Below w.heap.size w W
theorem Two.start (w : World) (k : Int) (t : ByteArray) (i : Int) (r : Nat) (f : Bool) : Two w ((w.alloc (.cells #[.int .i64 0, .string ⟨#[]⟩, .int .i64 0, .float .f64 0, .bool false, .slice none 0 0] 26)).alloc (.cells #[.int .i64 k, .string t, .int .i64 i, .float .f64 r, .bool f, .slice none 0 0] 26)) k t i r f := by
  have hs : (w.alloc (.cells #[.int .i64 0, .string ⟨#[]⟩, .int .i64 0, .float .f64 0, .bool false, .slice none 0 0] 26)).heap.size = w.heap.size + 1 := by simp
  refine ⟨?_, ?_, ?_, ?_, ((Below.refl _ _).alloc (Nat.le_refl _) _).alloc (by simp) _⟩
  · intro q x hq
    rw [Nat.zero_add, World.cell?_alloc_past _ _ _ (by simp), World.cell?_alloc_new]; simpa using hq
  · intro q x hq
    rw [Nat.zero_add, ← hs, World.cell?_alloc_new]; simpa using hq
  · exact (Blk.new w _ _).of_block (by rw [Below.heap_alloc _ _ _ (by simp)])
  · rw [← hs]; exact Blk.new _ _ _
theorem Two.move {w W W' : World} {k : Int} {t : ByteArray} {i : Int} {r : Nat} {f : Bool} (h : Two w W k t i r f) (hb : Below W.heap.size W W') : Two w W' k t i r f :=
  ⟨fun q x hq => by rw [hb.cell (World.block_lt_of_cell? _ _ (h.zero q x hq))]; exact h.zero q x hq, fun q x hq => by rw [hb.cell (World.block_lt_of_cell? _ _ (h.full q x hq))]; exact h.full q x hq,
    h.blk.of_block (hb.block _ h.blk.lt), h.blk1.of_block (hb.block _ h.blk1.lt), h.below.trans (hb.mono h.below.size)⟩
set_option maxRecDepth 100000 in
set_option maxHeartbeats 3200000 in
theorem short_1 {w : World} {t : ByteArray} (ht : t.size ≤ 1000000) : Calls Tryz.prog 71 #[.int .i64 1, .string t] w (ShortQ (some (leafV 1 t 0 0 false)) w) := by
  have hck := leaf_any 1 t 0 0 false (by decide) (by omega)
  have h2 := Two.start w 1 t 0 0 false
  by_cases ok : okV (leafV 1 t 0 0 false) = true
  · rw [if_pos ok] at hck
    replace hck := Lib.hid hck
    replace ok := Lib.hid ok
    replace h2 := Lib.hid h2
    go_enter Tryz.func71, Tryz.ntmps71
    go_wp2_with fail
    refine (hck.out _).mono ?_
    rintro e w3 ⟨rfl, hb⟩
    have h3 := h2.out.move hb
    clear hb
    have hrR : (w3.setCells w.heap.size 0 [.int .i64 1, .string t, .int .i64 0, .float .f64 0, .bool false, .slice none 0 0]).rangeAt w.heap.size 0 [.int .i64 1, .string t, .int .i64 0, .float .f64 0, .bool false, .slice none 0 0] :=
      World.rangeAt_setCells_same _ _ _ _ (there_of (n := 6) h3.zero h3.blk rfl)
    have htC := there_of (n := 6) h3.zero h3.blk rfl
    have hfu := h3.full
    have hbl : Below w.heap.size w (w3.setCells w.heap.size 0 [.int .i64 1, .string t, .int .i64 0, .float .f64 0, .bool false, .slice none 0 0]) :=
      h3.below.trans ((Fr.setCells (S := fun k => k = w.heap.size) (fun _ => rfl) _ _ _ (Fr.refl _ w3)).below h3.below.size (fun i hi h => by omega))
    replace hrR := Lib.hid hrR
    replace htC := Lib.hid htC
    replace hfu := Lib.hid hfu
    replace hbl := Lib.hid hbl
    replace h3 := Lib.hid h3
    go_wp2_with (first
      | (refine wpList_load_mid rfl 26 _ rfl (w.heap.size + 1) 0 rfl _ _ hfu.out Tryz.underlying26 rfl infoVal ?_)
      | (refine wpList_store_mid rfl 26 _ _ rfl w.heap.size 0 _ rfl rfl htC.out infoVal (one6 _ _ _ _ _ _ _ _) ?_))
    refine bodyPost_ret (results_cell1 (v := .agg #[.int .i64 1, .string t, .int .i64 0, .float .f64 0, .bool false, .slice none 0 0]) rfl rfl (run_loadVar_mid (P := Tryz.prog) _ _ 0 26 _ _ hrR.out Tryz.underlying26 rfl infoVal)) rfl ?_
    exact shortQ_ok ok.out rfl hbl.out
  · rw [if_neg ok] at hck
    replace hck := Lib.hid hck
    replace ok := Lib.hid ok
    replace h2 := Lib.hid h2
    go_enter Tryz.func71, Tryz.ntmps71
    go_wp2_with fail
    refine (hck.out _).mono ?_
    rintro e w3 ⟨rfl, hb⟩
    have h3 := h2.out.move hb
    replace h3 := Lib.hid h3
    clear hb
    go_wp2_with fail
    refine (fail_any _).mono ?_
    rintro e w' ⟨rfl, hww⟩
    obtain rfl := hww.symm
    exact ⟨rfl, shortQ_no ok.out rfl h3.out.below⟩
set_option maxRecDepth 100000 in
set_option maxHeartbeats 3200000 in
theorem short_2 {w : World} {t : ByteArray} (ht : t.size ≤ 1000000) : Calls Tryz.prog 71 #[.int .i64 2, .string t] w (ShortQ (some (leafV 2 t 0 0 false)) w) := by
  have hck := leaf_any 2 t 0 0 false (by decide) (by omega)
  have h2 := Two.start w 2 t 0 0 false
  by_cases ok : okV (leafV 2 t 0 0 false) = true
  · rw [if_pos ok] at hck
    replace hck := Lib.hid hck
    replace ok := Lib.hid ok
    replace h2 := Lib.hid h2
    go_enter Tryz.func71, Tryz.ntmps71
    go_wp2_with fail
    refine (hck.out _).mono ?_
    rintro e w3 ⟨rfl, hb⟩
    have h3 := h2.out.move hb
    clear hb
    have hrR : (w3.setCells w.heap.size 0 [.int .i64 2, .string t, .int .i64 0, .float .f64 0, .bool false, .slice none 0 0]).rangeAt w.heap.size 0 [.int .i64 2, .string t, .int .i64 0, .float .f64 0, .bool false, .slice none 0 0] :=
      World.rangeAt_setCells_same _ _ _ _ (there_of (n := 6) h3.zero h3.blk rfl)
    have htC := there_of (n := 6) h3.zero h3.blk rfl
    have hfu := h3.full
    have hbl : Below w.heap.size w (w3.setCells w.heap.size 0 [.int .i64 2, .string t, .int .i64 0, .float .f64 0, .bool false, .slice none 0 0]) :=
      h3.below.trans ((Fr.setCells (S := fun k => k = w.heap.size) (fun _ => rfl) _ _ _ (Fr.refl _ w3)).below h3.below.size (fun i hi h => by omega))
    replace hrR := Lib.hid hrR
    replace htC := Lib.hid htC
    replace hfu := Lib.hid hfu
    replace hbl := Lib.hid hbl
    replace h3 := Lib.hid h3
    go_wp2_with (first
      | (refine wpList_load_mid rfl 26 _ rfl (w.heap.size + 1) 0 rfl _ _ hfu.out Tryz.underlying26 rfl infoVal ?_)
      | (refine wpList_store_mid rfl 26 _ _ rfl w.heap.size 0 _ rfl rfl htC.out infoVal (one6 _ _ _ _ _ _ _ _) ?_))
    refine bodyPost_ret (results_cell1 (v := .agg #[.int .i64 2, .string t, .int .i64 0, .float .f64 0, .bool false, .slice none 0 0]) rfl rfl (run_loadVar_mid (P := Tryz.prog) _ _ 0 26 _ _ hrR.out Tryz.underlying26 rfl infoVal)) rfl ?_
    exact shortQ_ok ok.out rfl hbl.out
  · rw [if_neg ok] at hck
    replace hck := Lib.hid hck
    replace ok := Lib.hid ok
    replace h2 := Lib.hid h2
    go_enter Tryz.func71, Tryz.ntmps71
    go_wp2_with fail
    refine (hck.out _).mono ?_
    rintro e w3 ⟨rfl, hb⟩
    have h3 := h2.out.move hb
    replace h3 := Lib.hid h3
    clear hb
    go_wp2_with fail
    refine (fail_any _).mono ?_
    rintro e w' ⟨rfl, hww⟩
    obtain rfl := hww.symm
    exact ⟨rfl, shortQ_no ok.out rfl h3.out.below⟩
set_option maxRecDepth 100000 in
set_option maxHeartbeats 3200000 in
theorem short_9 {w : World} {t : ByteArray} (ht : t.size ≤ 1000000) : Calls Tryz.prog 71 #[.int .i64 9, .string t] w (ShortQ (some (leafV 9 t 0 0 false)) w) := by
  have hck := leaf_any 9 t 0 0 false (by decide) (by omega)
  have h2 := Two.start w 9 t 0 0 false
  by_cases ok : okV (leafV 9 t 0 0 false) = true
  · rw [if_pos ok] at hck
    replace hck := Lib.hid hck
    replace ok := Lib.hid ok
    replace h2 := Lib.hid h2
    go_enter Tryz.func71, Tryz.ntmps71
    go_wp2_with fail
    refine (hck.out _).mono ?_
    rintro e w3 ⟨rfl, hb⟩
    have h3 := h2.out.move hb
    clear hb
    have hrR : (w3.setCells w.heap.size 0 [.int .i64 9, .string t, .int .i64 0, .float .f64 0, .bool false, .slice none 0 0]).rangeAt w.heap.size 0 [.int .i64 9, .string t, .int .i64 0, .float .f64 0, .bool false, .slice none 0 0] :=
      World.rangeAt_setCells_same _ _ _ _ (there_of (n := 6) h3.zero h3.blk rfl)
    have htC := there_of (n := 6) h3.zero h3.blk rfl
    have hfu := h3.full
    have hbl : Below w.heap.size w (w3.setCells w.heap.size 0 [.int .i64 9, .string t, .int .i64 0, .float .f64 0, .bool false, .slice none 0 0]) :=
      h3.below.trans ((Fr.setCells (S := fun k => k = w.heap.size) (fun _ => rfl) _ _ _ (Fr.refl _ w3)).below h3.below.size (fun i hi h => by omega))
    replace hrR := Lib.hid hrR
    replace htC := Lib.hid htC
    replace hfu := Lib.hid hfu
    replace hbl := Lib.hid hbl
    replace h3 := Lib.hid h3
    go_wp2_with (first
      | (refine wpList_load_mid rfl 26 _ rfl (w.heap.size + 1) 0 rfl _ _ hfu.out Tryz.underlying26 rfl infoVal ?_)
      | (refine wpList_store_mid rfl 26 _ _ rfl w.heap.size 0 _ rfl rfl htC.out infoVal (one6 _ _ _ _ _ _ _ _) ?_))
    refine bodyPost_ret (results_cell1 (v := .agg #[.int .i64 9, .string t, .int .i64 0, .float .f64 0, .bool false, .slice none 0 0]) rfl rfl (run_loadVar_mid (P := Tryz.prog) _ _ 0 26 _ _ hrR.out Tryz.underlying26 rfl infoVal)) rfl ?_
    exact shortQ_ok ok.out rfl hbl.out
  · rw [if_neg ok] at hck
    replace hck := Lib.hid hck
    replace ok := Lib.hid ok
    replace h2 := Lib.hid h2
    go_enter Tryz.func71, Tryz.ntmps71
    go_wp2_with fail
    refine (hck.out _).mono ?_
    rintro e w3 ⟨rfl, hb⟩
    have h3 := h2.out.move hb
    replace h3 := Lib.hid h3
    clear hb
    go_wp2_with fail
    refine (fail_any _).mono ?_
    rintro e w' ⟨rfl, hww⟩
    obtain rfl := hww.symm
    exact ⟨rfl, shortQ_no ok.out rfl h3.out.below⟩
theorem Two.set2 {w W : World} {k : Int} {t : ByteArray} {i : Int} {r : Nat} {f : Bool} (h : Two w W k t i r f) (n : Int) : Two w (W.setCell ⟨w.heap.size + 1, 2, none⟩ (.int .i64 n)) k t n r f := by
  have g := fun q x (hq : ([.int .i64 k, .string t, .int .i64 i, .float .f64 r, .bool f, .slice none 0 0] : List Value)[q]? = some x) => h.full q x hq
  refine ⟨fun q x hq => ?_, range6 ?_ ?_ (cell_set_eq (g 2 _ rfl)) ?_ ?_ ?_, h.blk.setCell _ _, h.blk1.setCell _ _, h.below.trans ((Fr.setCell (S := fun k => k = w.heap.size + 1) (Fr.refl _ _) (fun _ => rfl) _).below h.below.size (fun i hi e => by omega))⟩
  · rw [cell_set_ne (by simp)]; exact h.zero q x hq
  · rw [cell_set_ne (by simp)]; exact g 0 _ rfl
  · rw [cell_set_ne (by simp)]; exact g 1 _ rfl
  · rw [cell_set_ne (by simp)]; exact g 3 _ rfl
  · rw [cell_set_ne (by simp)]; exact g 4 _ rfl
  · rw [cell_set_ne (by simp)]; exact g 5 _ rfl
theorem Two.set3 {w W : World} {k : Int} {t : ByteArray} {i : Int} {r : Nat} {f : Bool} (h : Two w W k t i r f) (n : Nat) : Two w (W.setCell ⟨w.heap.size + 1, 3, none⟩ (.float .f64 n)) k t i n f := by
  have g := fun q x (hq : ([.int .i64 k, .string t, .int .i64 i, .float .f64 r, .bool f, .slice none 0 0] : List Value)[q]? = some x) => h.full q x hq
  refine ⟨fun q x hq => ?_, range6 ?_ ?_ ?_ (cell_set_eq (g 3 _ rfl)) ?_ ?_, h.blk.setCell _ _, h.blk1.setCell _ _, h.below.trans ((Fr.setCell (S := fun k => k = w.heap.size + 1) (Fr.refl _ _) (fun _ => rfl) _).below h.below.size (fun i hi e => by omega))⟩
  · rw [cell_set_ne (by simp)]; exact h.zero q x hq
  · rw [cell_set_ne (by simp)]; exact g 0 _ rfl
  · rw [cell_set_ne (by simp)]; exact g 1 _ rfl
  · rw [cell_set_ne (by simp)]; exact g 2 _ rfl
  · rw [cell_set_ne (by simp)]; exact g 4 _ rfl
  · rw [cell_set_ne (by simp)]; exact g 5 _ rfl
/-- What real.Parse comes to. -/
def RealQ (o : Option Nat) (w : World) (e : Ending) (w' : World) : Prop :=
  (match o with
    | some r => e = .returned (.tuple #[.float .f64 r, .int .i64 0])
    | none => ∃ x, e = .returned (.tuple #[.float .f64 x, .int .i64 21])) ∧ Below w.heap.size w w'
set_option maxRecDepth 100000 in
set_option maxHeartbeats 3200000 in
theorem short_3 {w : World} {t : ByteArray} (ht : t.size ≤ 1000000) (hN : Nums w) : Calls Tryz.prog 71 #[.int .i64 3, .string t] w (ShortQ ((wP t.data.toList).map fun n => leafV 3 ⟨#[]⟩ n 0 false) w) := by
  have h2 := Two.start w 3 ⟨#[]⟩ 0 0 false
  have hp := fun W (hW : Below w.heap.size w W) => wparse_any t (by omega) W (hN.below hW)
  cases hw : wP t.data.toList with
  | none =>
    rw [hw] at hp
    replace hp := Lib.hid hp
    replace h2 := Lib.hid h2
    clear hw hN
    go_enter Tryz.func71, Tryz.ntmps71
    go_wp2_with fail
    refine (hp.out _ h2.out.below).mono ?_
    rintro e w3 ⟨rfl, hb⟩
    have h3 := h2.out.move hb
    have z := h3.blk1.frz 2 none
    have c2 := h3.full 2 _ rfl
    rw [Nat.zero_add] at c2
    have h4 := h3.set2 0
    replace h4 := Lib.hid h4
    clear hb h3
    simp only [Option.getD_none, Option.isSome_none, Bool.false_eq_true, if_false]
    go_wp2_with fail
    refine (fail_any _).mono ?_
    rintro e w' ⟨rfl, hww⟩
    obtain rfl := hww.symm
    exact ⟨rfl, shortQ_none rfl h4.out.below⟩
  | some n =>
    rw [hw] at hp
    replace hp := Lib.hid hp
    have hck := leaf_any 3 ⟨#[]⟩ n 0 false (by decide) (by decide)
    clear hw hN
    by_cases ok : okV (leafV 3 ⟨#[]⟩ n 0 false) = true
    · rw [if_pos ok] at hck
      replace hck := Lib.hid hck
      replace ok := Lib.hid ok
      replace h2 := Lib.hid h2
      go_enter Tryz.func71, Tryz.ntmps71
      go_wp2_with fail
      refine (hp.out _ h2.out.below).mono ?_
      rintro e w3 ⟨rfl, hb⟩
      have h3 := h2.out.move hb
      have z := h3.blk1.frz 2 none
      have h4 := h3.set2 n
      have c0 := h3.full 0 _ rfl
      have c1 := h3.full 1 _ rfl
      have c2 := h3.full 2 _ rfl
      have c3 := h3.full 3 _ rfl
      have c4 := h3.full 4 _ rfl
      have c5 := h3.full 5 _ rfl
      rw [Nat.zero_add] at c0 c1 c2 c3 c4 c5
      replace h4 := Lib.hid h4
      clear hb h3
      (simp only [Option.getD_some, Option.isSome_some, if_true])
      go_wp2_with fail
      refine (hck.out _).mono ?_
      rintro e w5 ⟨rfl, hb⟩
      have h3 := h4.out.move hb
      clear hb c0 c1 c2 c3 c4 c5 z
      obtain ⟨w3, hw3⟩ : ∃ w3, w3 = w5 := ⟨_, rfl⟩
      rw [← hw3] at h3 ⊢
      replace hw3 := Lib.hid hw3
      have hrR : (w3.setCells w.heap.size 0 [.int .i64 3, .string (⟨#[]⟩ : ByteArray), .int .i64 n, .float .f64 0, .bool false, .slice none 0 0]).rangeAt w.heap.size 0 [.int .i64 3, .string (⟨#[]⟩ : ByteArray), .int .i64 n, .float .f64 0, .bool false, .slice none 0 0] :=
        World.rangeAt_setCells_same _ _ _ _ (there_of (n := 6) h3.zero h3.blk rfl)
      have htC := there_of (n := 6) h3.zero h3.blk rfl
      have hfu := h3.full
      have hbl : Below w.heap.size w (w3.setCells w.heap.size 0 [.int .i64 3, .string (⟨#[]⟩ : ByteArray), .int .i64 n, .float .f64 0, .bool false, .slice none 0 0]) :=
        h3.below.trans ((Fr.setCells (S := fun k => k = w.heap.size) (fun _ => rfl) _ _ _ (Fr.refl _ w3)).below h3.below.size (fun i hi h => by omega))
      replace hrR := Lib.hid hrR
      replace htC := Lib.hid htC
      replace hfu := Lib.hid hfu
      replace hbl := Lib.hid hbl
      replace h3 := Lib.hid h3
      go_wp2_with (first
        | (refine wpList_load_mid rfl 26 _ rfl (w.heap.size + 1) 0 rfl _ _ hfu.out Tryz.underlying26 rfl infoVal ?_)
        | (refine wpList_store_mid rfl 26 _ _ rfl w.heap.size 0 _ rfl rfl htC.out infoVal (one6 _ _ _ _ _ _ _ _) ?_))
      refine bodyPost_ret (results_cell1 (v := .agg #[.int .i64 3, .string (⟨#[]⟩ : ByteArray), .int .i64 n, .float .f64 0, .bool false, .slice none 0 0]) rfl rfl (run_loadVar_mid (P := Tryz.prog) _ _ 0 26 _ _ hrR.out Tryz.underlying26 rfl infoVal)) rfl ?_
      exact shortQ_ok ok.out rfl hbl.out
    · rw [if_neg ok] at hck
      replace hck := Lib.hid hck
      replace ok := Lib.hid ok
      replace h2 := Lib.hid h2
      go_enter Tryz.func71, Tryz.ntmps71
      go_wp2_with fail
      refine (hp.out _ h2.out.below).mono ?_
      rintro e w3 ⟨rfl, hb⟩
      have h3 := h2.out.move hb
      have z := h3.blk1.frz 2 none
      have h4 := h3.set2 n
      have c0 := h3.full 0 _ rfl
      have c1 := h3.full 1 _ rfl
      have c2 := h3.full 2 _ rfl
      have c3 := h3.full 3 _ rfl
      have c4 := h3.full 4 _ rfl
      have c5 := h3.full 5 _ rfl
      rw [Nat.zero_add] at c0 c1 c2 c3 c4 c5
      replace h4 := Lib.hid h4
      clear hb h3
      (simp only [Option.getD_some, Option.isSome_some, if_true])
      go_wp2_with fail
      refine (hck.out _).mono ?_
      rintro e w5 ⟨rfl, hb⟩
      have h3 := h4.out.move hb
      clear hb c0 c1 c2 c3 c4 c5 z
      obtain ⟨w3, hw3⟩ : ∃ w3, w3 = w5 := ⟨_, rfl⟩
      rw [← hw3] at h3 ⊢
      replace hw3 := Lib.hid hw3
      replace h3 := Lib.hid h3
      go_wp2_with fail
      refine (fail_any _).mono ?_
      rintro e w' ⟨rfl, hww⟩
      obtain rfl := hww.symm
      exact ⟨rfl, shortQ_no ok.out rfl h3.out.below⟩
set_option maxRecDepth 100000 in
set_option maxHeartbeats 3200000 in
theorem short_7 {w : World} {t : ByteArray} {o : Option Nat} (hp : ∀ W, Below w.heap.size w W → Calls Tryz.prog 90 #[.string t] W (RealQ o W)) : Calls Tryz.prog 71 #[.int .i64 7, .string t] w (ShortQ (o.map fun r => leafV 7 ⟨#[]⟩ 0 r false) w) := by
  have h2 := Two.start w 7 ⟨#[]⟩ 0 0 false
  cases o with
  | none =>
    replace hp := Lib.hid hp
    replace h2 := Lib.hid h2
    go_enter Tryz.func71, Tryz.ntmps71
    go_wp2_with fail
    refine (hp.out _ h2.out.below).mono ?_
    rintro e w3 ⟨⟨x, rfl⟩, hb⟩
    have h3 := h2.out.move hb
    have z := h3.blk1.frz 3 none
    have c2 := h3.full 3 _ rfl
    rw [Nat.zero_add] at c2
    have h4 := h3.set3 x
    replace h4 := Lib.hid h4
    clear hb h3
    go_wp2_with fail
    refine (fail_any _).mono ?_
    rintro e w' ⟨rfl, hww⟩
    obtain rfl := hww.symm
    exact ⟨rfl, shortQ_none rfl h4.out.below⟩
  | some n =>
    replace hp := Lib.hid hp
    have hck := leaf_any 7 ⟨#[]⟩ 0 n false (by decide) (by decide)
    by_cases ok : okV (leafV 7 ⟨#[]⟩ 0 n false) = true
    · rw [if_pos ok] at hck
      replace hck := Lib.hid hck
      replace ok := Lib.hid ok
      replace h2 := Lib.hid h2
      go_enter Tryz.func71, Tryz.ntmps71
      go_wp2_with fail
      refine (hp.out _ h2.out.below).mono ?_
      rintro e w3 ⟨rfl, hb⟩
      have h3 := h2.out.move hb
      have z := h3.blk1.frz 3 none
      have h4 := h3.set3 n
      have c0 := h3.full 0 _ rfl
      have c1 := h3.full 1 _ rfl
      have c2 := h3.full 2 _ rfl
      have c3 := h3.full 3 _ rfl
      have c4 := h3.full 4 _ rfl
      have c5 := h3.full 5 _ rfl
      rw [Nat.zero_add] at c0 c1 c2 c3 c4 c5
      replace h4 := Lib.hid h4
      clear hb h3
      skip
      go_wp2_with fail
      refine (hck.out _).mono ?_
      rintro e w5 ⟨rfl, hb⟩
      have h3 := h4.out.move hb
      clear hb c0 c1 c2 c3 c4 c5 z
      obtain ⟨w3, hw3⟩ : ∃ w3, w3 = w5 := ⟨_, rfl⟩
      rw [← hw3] at h3 ⊢
      replace hw3 := Lib.hid hw3
      have hrR : (w3.setCells w.heap.size 0 [.int .i64 7, .string (⟨#[]⟩ : ByteArray), .int .i64 0, .float .f64 n, .bool false, .slice none 0 0]).rangeAt w.heap.size 0 [.int .i64 7, .string (⟨#[]⟩ : ByteArray), .int .i64 0, .float .f64 n, .bool false, .slice none 0 0] :=
        World.rangeAt_setCells_same _ _ _ _ (there_of (n := 6) h3.zero h3.blk rfl)
      have htC := there_of (n := 6) h3.zero h3.blk rfl
      have hfu := h3.full
      have hbl : Below w.heap.size w (w3.setCells w.heap.size 0 [.int .i64 7, .string (⟨#[]⟩ : ByteArray), .int .i64 0, .float .f64 n, .bool false, .slice none 0 0]) :=
        h3.below.trans ((Fr.setCells (S := fun k => k = w.heap.size) (fun _ => rfl) _ _ _ (Fr.refl _ w3)).below h3.below.size (fun i hi h => by omega))
      replace hrR := Lib.hid hrR
      replace htC := Lib.hid htC
      replace hfu := Lib.hid hfu
      replace hbl := Lib.hid hbl
      replace h3 := Lib.hid h3
      go_wp2_with (first
        | (refine wpList_load_mid rfl 26 _ rfl (w.heap.size + 1) 0 rfl _ _ hfu.out Tryz.underlying26 rfl infoVal ?_)
        | (refine wpList_store_mid rfl 26 _ _ rfl w.heap.size 0 _ rfl rfl htC.out infoVal (one6 _ _ _ _ _ _ _ _) ?_))
      refine bodyPost_ret (results_cell1 (v := .agg #[.int .i64 7, .string (⟨#[]⟩ : ByteArray), .int .i64 0, .float .f64 n, .bool false, .slice none 0 0]) rfl rfl (run_loadVar_mid (P := Tryz.prog) _ _ 0 26 _ _ hrR.out Tryz.underlying26 rfl infoVal)) rfl ?_
      exact shortQ_ok ok.out rfl hbl.out
    · rw [if_neg ok] at hck
      replace hck := Lib.hid hck
      replace ok := Lib.hid ok
      replace h2 := Lib.hid h2
      go_enter Tryz.func71, Tryz.ntmps71
      go_wp2_with fail
      refine (hp.out _ h2.out.below).mono ?_
      rintro e w3 ⟨rfl, hb⟩
      have h3 := h2.out.move hb
      have z := h3.blk1.frz 3 none
      have h4 := h3.set3 n
      have c0 := h3.full 0 _ rfl
      have c1 := h3.full 1 _ rfl
      have c2 := h3.full 2 _ rfl
      have c3 := h3.full 3 _ rfl
      have c4 := h3.full 4 _ rfl
      have c5 := h3.full 5 _ rfl
      rw [Nat.zero_add] at c0 c1 c2 c3 c4 c5
      replace h4 := Lib.hid h4
      clear hb h3
      skip
      go_wp2_with fail
      refine (hck.out _).mono ?_
      rintro e w5 ⟨rfl, hb⟩
      have h3 := h4.out.move hb
      clear hb c0 c1 c2 c3 c4 c5 z
      obtain ⟨w3, hw3⟩ : ∃ w3, w3 = w5 := ⟨_, rfl⟩
      rw [← hw3] at h3 ⊢
      replace hw3 := Lib.hid hw3
      replace h3 := Lib.hid h3
      go_wp2_with fail
      refine (fail_any _).mono ?_
      rintro e w' ⟨rfl, hww⟩
      obtain rfl := hww.symm
      exact ⟨rfl, shortQ_no ok.out rfl h3.out.below⟩
theorem okV_flag (f : Bool) : okV (leafV 8 ⟨#[]⟩ 0 0 f) = true := by cases f <;> decide +kernel
theorem okV_null : okV (leafV 6 ⟨#[]⟩ 0 0 false) = true := by decide +kernel
set_option maxRecDepth 100000 in
set_option maxHeartbeats 3200000 in
theorem short_t {w : World} : Calls Tryz.prog 71 #[.int .i64 8, .string ⟨#[116]⟩] w (ShortQ (some (leafV 8 ⟨#[]⟩ 0 0 true)) w) := by
  have h2 := Two.start w 8 ⟨#[]⟩ 0 0 true
  have hck := leaf_any 8 ⟨#[]⟩ 0 0 true (by decide) (by decide)
  rw [if_pos (okV_flag true)] at hck
  replace hck := Lib.hid hck
  replace h2 := Lib.hid h2
  go_enter Tryz.func71, Tryz.ntmps71
  go_wp2_with fail
  refine (hck.out _).mono ?_
  rintro e w3 ⟨rfl, hb⟩
  have h3 := h2.out.move hb
  clear hb
  have hrR : (w3.setCells w.heap.size 0 [.int .i64 8, .string (⟨#[]⟩ : ByteArray), .int .i64 0, .float .f64 0, .bool true, .slice none 0 0]).rangeAt w.heap.size 0 [.int .i64 8, .string (⟨#[]⟩ : ByteArray), .int .i64 0, .float .f64 0, .bool true, .slice none 0 0] :=
    World.rangeAt_setCells_same _ _ _ _ (there_of (n := 6) h3.zero h3.blk rfl)
  have htC := there_of (n := 6) h3.zero h3.blk rfl
  have hfu := h3.full
  have hbl : Below w.heap.size w (w3.setCells w.heap.size 0 [.int .i64 8, .string (⟨#[]⟩ : ByteArray), .int .i64 0, .float .f64 0, .bool true, .slice none 0 0]) :=
    h3.below.trans ((Fr.setCells (S := fun k => k = w.heap.size) (fun _ => rfl) _ _ _ (Fr.refl _ w3)).below h3.below.size (fun i hi h => by omega))
  replace hrR := Lib.hid hrR
  replace htC := Lib.hid htC
  replace hfu := Lib.hid hfu
  replace hbl := Lib.hid hbl
  replace h3 := Lib.hid h3
  go_wp2_with (first
    | (refine wpList_load_mid rfl 26 _ rfl (w.heap.size + 1) 0 rfl _ _ hfu.out Tryz.underlying26 rfl infoVal ?_)
    | (refine wpList_store_mid rfl 26 _ _ rfl w.heap.size 0 _ rfl rfl htC.out infoVal (one6 _ _ _ _ _ _ _ _) ?_))
  refine bodyPost_ret (results_cell1 (v := .agg #[.int .i64 8, .string (⟨#[]⟩ : ByteArray), .int .i64 0, .float .f64 0, .bool true, .slice none 0 0]) rfl rfl (run_loadVar_mid (P := Tryz.prog) _ _ 0 26 _ _ hrR.out Tryz.underlying26 rfl infoVal)) rfl ?_
  exact shortQ_ok (okV_flag true) rfl hbl.out
set_option maxRecDepth 100000 in
set_option maxHeartbeats 3200000 in
theorem short_f {w : World} : Calls Tryz.prog 71 #[.int .i64 8, .string ⟨#[102]⟩] w (ShortQ (some (leafV 8 ⟨#[]⟩ 0 0 false)) w) := by
  have h2 := Two.start w 8 ⟨#[]⟩ 0 0 false
  have hck := leaf_any 8 ⟨#[]⟩ 0 0 false (by decide) (by decide)
  rw [if_pos (okV_flag false)] at hck
  replace hck := Lib.hid hck
  replace h2 := Lib.hid h2
  go_enter Tryz.func71, Tryz.ntmps71
  go_wp2_with fail
  refine (hck.out _).mono ?_
  rintro e w3 ⟨rfl, hb⟩
  have h3 := h2.out.move hb
  clear hb
  have hrR : (w3.setCells w.heap.size 0 [.int .i64 8, .string (⟨#[]⟩ : ByteArray), .int .i64 0, .float .f64 0, .bool false, .slice none 0 0]).rangeAt w.heap.size 0 [.int .i64 8, .string (⟨#[]⟩ : ByteArray), .int .i64 0, .float .f64 0, .bool false, .slice none 0 0] :=
    World.rangeAt_setCells_same _ _ _ _ (there_of (n := 6) h3.zero h3.blk rfl)
  have htC := there_of (n := 6) h3.zero h3.blk rfl
  have hfu := h3.full
  have hbl : Below w.heap.size w (w3.setCells w.heap.size 0 [.int .i64 8, .string (⟨#[]⟩ : ByteArray), .int .i64 0, .float .f64 0, .bool false, .slice none 0 0]) :=
    h3.below.trans ((Fr.setCells (S := fun k => k = w.heap.size) (fun _ => rfl) _ _ _ (Fr.refl _ w3)).below h3.below.size (fun i hi h => by omega))
  replace hrR := Lib.hid hrR
  replace htC := Lib.hid htC
  replace hfu := Lib.hid hfu
  replace hbl := Lib.hid hbl
  replace h3 := Lib.hid h3
  go_wp2_with (first
    | (refine wpList_load_mid rfl 26 _ rfl (w.heap.size + 1) 0 rfl _ _ hfu.out Tryz.underlying26 rfl infoVal ?_)
    | (refine wpList_store_mid rfl 26 _ _ rfl w.heap.size 0 _ rfl rfl htC.out infoVal (one6 _ _ _ _ _ _ _ _) ?_))
  refine bodyPost_ret (results_cell1 (v := .agg #[.int .i64 8, .string (⟨#[]⟩ : ByteArray), .int .i64 0, .float .f64 0, .bool false, .slice none 0 0]) rfl rfl (run_loadVar_mid (P := Tryz.prog) _ _ 0 26 _ _ hrR.out Tryz.underlying26 rfl infoVal)) rfl ?_
  exact shortQ_ok (okV_flag false) rfl hbl.out
set_option maxRecDepth 100000 in
set_option maxHeartbeats 3200000 in
theorem short_8no {w : World} {t : ByteArray} (h1 : t ≠ ⟨#[116]⟩) (h2' : t ≠ ⟨#[102]⟩) : Calls Tryz.prog 71 #[.int .i64 8, .string t] w (ShortQ none w) := by
  have h2 := Two.start w 8 ⟨#[]⟩ 0 0 false
  have y1 : (t.toList == [116]) = false := beq_eq_false_iff_ne.2 fun e => h1 (by rw [ByteArray.toList_eq] at e; exact ByteArray.ext (Array.toList_inj.1 e))
  have y2 : (t.toList == [102]) = false := beq_eq_false_iff_ne.2 fun e => h2' (by rw [ByteArray.toList_eq] at e; exact ByteArray.ext (Array.toList_inj.1 e))
  have y3 : (t.toList != [116]) = true := by simp [bne, y1]
  have y4 : (t.toList != [102]) = true := by simp [bne, y2]
  replace h2 := Lib.hid h2
  replace h1 := Lib.hid h1
  replace h2' := Lib.hid h2'
  go_enter Tryz.func71, Tryz.ntmps71
  go_wp2_with fail
  refine (fail_any _).mono ?_
  rintro e w' ⟨rfl, hww⟩
  obtain rfl := hww.symm
  exact ⟨rfl, shortQ_none rfl h2.out.below⟩
set_option maxRecDepth 100000 in
set_option maxHeartbeats 3200000 in
theorem short_6 {w : World} : Calls Tryz.prog 71 #[.int .i64 6, .string ⟨#[]⟩] w (ShortQ (some (leafV 6 ⟨#[]⟩ 0 0 false)) w) := by
  have h2 := Two.start w 6 ⟨#[]⟩ 0 0 false
  have hck := leaf_any 6 ⟨#[]⟩ 0 0 false (by decide) (by decide)
  rw [if_pos okV_null] at hck
  replace hck := Lib.hid hck
  replace h2 := Lib.hid h2
  go_enter Tryz.func71, Tryz.ntmps71
  go_wp2_with fail
  refine (hck.out _).mono ?_
  rintro e w3 ⟨rfl, hb⟩
  have h3 := h2.out.move hb
  clear hb
  have hrR : (w3.setCells w.heap.size 0 [.int .i64 6, .string (⟨#[]⟩ : ByteArray), .int .i64 0, .float .f64 0, .bool false, .slice none 0 0]).rangeAt w.heap.size 0 [.int .i64 6, .string (⟨#[]⟩ : ByteArray), .int .i64 0, .float .f64 0, .bool false, .slice none 0 0] :=
    World.rangeAt_setCells_same _ _ _ _ (there_of (n := 6) h3.zero h3.blk rfl)
  have htC := there_of (n := 6) h3.zero h3.blk rfl
  have hfu := h3.full
  have hbl : Below w.heap.size w (w3.setCells w.heap.size 0 [.int .i64 6, .string (⟨#[]⟩ : ByteArray), .int .i64 0, .float .f64 0, .bool false, .slice none 0 0]) :=
    h3.below.trans ((Fr.setCells (S := fun k => k = w.heap.size) (fun _ => rfl) _ _ _ (Fr.refl _ w3)).below h3.below.size (fun i hi h => by omega))
  replace hrR := Lib.hid hrR
  replace htC := Lib.hid htC
  replace hfu := Lib.hid hfu
  replace hbl := Lib.hid hbl
  replace h3 := Lib.hid h3
  go_wp2_with (first
    | (refine wpList_load_mid rfl 26 _ rfl (w.heap.size + 1) 0 rfl _ _ hfu.out Tryz.underlying26 rfl infoVal ?_)
    | (refine wpList_store_mid rfl 26 _ _ rfl w.heap.size 0 _ rfl rfl htC.out infoVal (one6 _ _ _ _ _ _ _ _) ?_))
  refine bodyPost_ret (results_cell1 (v := .agg #[.int .i64 6, .string (⟨#[]⟩ : ByteArray), .int .i64 0, .float .f64 0, .bool false, .slice none 0 0]) rfl rfl (run_loadVar_mid (P := Tryz.prog) _ _ 0 26 _ _ hrR.out Tryz.underlying26 rfl infoVal)) rfl ?_
  exact shortQ_ok okV_null rfl hbl.out
set_option maxRecDepth 100000 in
set_option maxHeartbeats 3200000 in
theorem short_6no {w : World} {t : ByteArray} (h1 : t ≠ ⟨#[]⟩) : Calls Tryz.prog 71 #[.int .i64 6, .string t] w (ShortQ none w) := by
  have h2 := Two.start w 6 ⟨#[]⟩ 0 0 false
  have y0 : ¬ t.toList = [] := fun e => h1 (by rw [ByteArray.toList_eq] at e; exact ByteArray.ext (Array.toList_inj.1 e))
  have y1 : (t.toList == []) = false := beq_eq_false_iff_ne.2 y0
  have y3 : (t.toList != []) = true := by simp [bne, y1]
  have y4 : t.toList.isEmpty = false := by cases hh : t.toList.isEmpty with | false => rfl | true => exact absurd (List.isEmpty_iff.1 hh) y0
  replace h2 := Lib.hid h2
  go_enter Tryz.func71, Tryz.ntmps71
  go_wp2_with fail
  refine (fail_any _).mono ?_
  rintro e w' ⟨rfl, hww⟩
  obtain rfl := hww.symm
  exact ⟨rfl, shortQ_none rfl h2.out.below⟩
end Go.Proofs.YtagkgfniihiinaaGreatDoor
