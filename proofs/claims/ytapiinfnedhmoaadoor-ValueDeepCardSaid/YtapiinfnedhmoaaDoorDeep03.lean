/- ValueDeep: its walk. -/
import Derived.Test.YtapiinfnedhmoaaDoorDeepF
import Derived.Test.YtapiinfnedhmoaaDoorAlive03
import Derived.Test.YtapiinfnedhmoaaDoorGives
import Derived.Deep.DeepCutAuto
namespace Go.Proofs.YtapiinfnedhmoaaDoor
open Go.RowKit

theorem reads_block {w : World} {b size : Nat} {us : Array Value} {t : TypeId} (h : w.heap[b]? = some (.cells us t (0, 0))) (hs : us.size = size) : Reads w size (.slice (some ⟨b, 0, none⟩) 1 1) 1 us.toList :=
  ⟨_, _, rfl, by simp [hs], fun j u hj => ⟨b, 0, rfl, by simp [World.cell?, h]; simpa using hj⟩⟩
/-- So many nothings' cells. -/
def repC (j : Nat) : List Value := (List.replicate j [Value.int .i64 6, .string ⟨#[]⟩, .int .i64 0, .float .f64 0, .bool false, .slice none 0 0]).flatten
theorem rep0 (w : World) (b : Nat) : w.ownsRow b 25 6 (.slice none 0 0) 0 (repC 0) := World.ownsRow_nil w b 25 6
theorem repC_succ (j : Nat) : repC (j + 1) = repC j ++ [Value.int .i64 6, .string ⟨#[]⟩, .int .i64 0, .float .f64 0, .bool false, .slice none 0 0] := by
  unfold repC; rw [List.replicate_succ', List.flatten_append]; simp
theorem repC_len (j : Nat) : (repC j).length = j * 6 := by
  induction j with
  | zero => rfl
  | succ j ih => rw [repC_succ, List.length_append, ih]; simp; omega
theorem set_rv {w : World} {b : Nat} {a : Option Addr} {n c : Nat} (h : w.ownsRow b 25 6 (.slice a n c) n (repC n)) : RV w.cell? (cells6 13 ⟨#[]⟩ 0 0 false a n c) (setV n) := by
  refine RV.mk 13 ⟨#[]⟩ 0 0 false a n c (List.replicate n vNil) (List.replicate n [.int .i64 6, .string ⟨#[]⟩, .int .i64 0, .float .f64 0, .bool false, .slice none 0 0]) (by simp) (by simp) (fun j x hx => ?_) (rep_rvs _ n).2
  have hfl := fun q u hu => flat_at (size := 6) (css := List.replicate n [.int .i64 6, .string ⟨#[]⟩, .int .i64 0, .float .f64 0, .bool false, .slice none 0 0]) (fun y hy => by rw [(List.mem_replicate.1 hy).2]; rfl) j x hx q u hu
  have hj : j < n := by have := (List.getElem?_eq_some_iff.1 hx).1; simpa using this
  have hl := repC_len n
  obtain ⟨b', o, ha, hc⟩ := (Reads.of_owns h).at (j := 0) (by omega)
  refine ⟨b', o, ha, fun q u hu => ?_⟩
  have := hc _ _ (hfl q u hu)
  rw [← Nat.add_assoc] at this; exact this
theorem setck (n : Nat) (a : Option Addr) (c : Nat) (w : World) (h : RV w.cell? (cells6 13 ⟨#[]⟩ 0 0 false a n c) (setV n)) (hn : ¬ 2000 < (n : Int)) :
    Calls Tryd.prog 11 #[.agg #[.int .i64 13, .string ⟨#[]⟩, .int .i64 0, .float .f64 0, .bool false, .slice a n c]] w fun e w' => e = .returned (.int .i64 (checkZ (setV n))) ∧ Below w.heap.size w w' := by
  have hl : (setV n).list.length = n := by simp [setV, V.list]
  have := check_any (setV n) a c w (by rw [hl]; exact h) (set_sized n) (by rw [set_count]; omega)
  rw [hl] at this; exact this
theorem setct (n : Nat) (a : Option Addr) (c : Nat) (w : World) (h : RV w.cell? (cells6 13 ⟨#[]⟩ 0 0 false a n c) (setV n)) (hn : ¬ 2000 < (n : Int)) :
    Calls Tryd.prog 15 #[.agg #[.int .i64 13, .string ⟨#[]⟩, .int .i64 0, .float .f64 0, .bool false, .slice a n c]] w fun e w' => e = .returned (.int .i64 ((n + 1 : Nat) : Int)) ∧ Below w.heap.size w w' := by
  have hl : (setV n).list.length = n := by simp [setV, V.list]
  have := count_any (setV n) a c w (by rw [hl]; exact h) (by rw [set_count]; omega)
  rw [hl, set_count] at this; exact this
def dpR (i : Nat) (w w' : World) : Prop := match i with
  | 2 => Below w.heap.size w w'
  | 3 => Below w.heap.size w w'
  | 4 => True
  | 6 => True
  | _ => w' = w

set_option maxRecDepth 100000 in
set_option maxHeartbeats 3200000 in
theorem deep03_any (d m : Int) (w : World) : Calls Tryd.prog 5 #[.int .i64 d, .int .i64 m] w fun e w' => e = .returned (.bool true) ∧ Below w.heap.size w w' := by
  by_cases hd0 : d < 0
  · go_enter Tryd.func5, Tryd.ntmps5
    go_wp2_with fail
    refine (alive03_any w).mono ?_
    rintro e w1 ⟨rfl, hb1⟩
    go_wp2
    go_ret
    exact ⟨rfl, hb1⟩
  by_cases hd1 : 40 < d
  · go_enter Tryd.func5, Tryd.ntmps5
    go_wp2_with fail
    refine (alive03_any w).mono ?_
    rintro e w1 ⟨rfl, hb1⟩
    go_wp2
    go_ret
    exact ⟨rfl, hb1⟩
  by_cases hm0 : m < 0
  · go_enter Tryd.func5, Tryd.ntmps5
    go_wp2_with fail
    refine (alive03_any w).mono ?_
    rintro e w1 ⟨rfl, hb1⟩
    go_wp2
    go_ret
    exact ⟨rfl, hb1⟩
  by_cases hm1 : 2000 < m
  · go_enter Tryd.func5, Tryd.ntmps5
    go_wp2_with fail
    refine (alive03_any w).mono ?_
    rintro e w1 ⟨rfl, hb1⟩
    go_wp2
    go_ret
    exact ⟨rfl, hb1⟩
  obtain ⟨dn, rfl⟩ := Int.eq_ofNat_of_zero_le (show 0 ≤ d by omega)
  obtain ⟨mn, rfl⟩ := Int.eq_ofNat_of_zero_le (show 0 ≤ m by omega)
  have t0 : decide ((dn : Int) < 0) = false := decide_eq_false hd0
  have t1 : decide (40 < (dn : Int)) = false := decide_eq_false hd1
  have t2 : decide ((mn : Int) < 0) = false := decide_eq_false hm0
  have t3 : decide (2000 < (mn : Int)) = false := decide_eq_false hm1
  go_enter Tryd.func5, Tryd.ntmps5
  go_wp2_with fail
  refine (alive03_any w).mono ?_
  rintro e w1 ⟨rfl, hb1⟩
  go_wp2_with fail
  refine (int_any 7 w1).mono ?_
  rintro e w2 ⟨rfl, hb2⟩
  go_wp2_with fail
  have hbw2 := hb1.trans (hb2.mono hb1.size)
  obtain ⟨W3, hW3⟩ : ∃ W3, W3 = w2.alloc (.cells #[.int .i64 3, .string ⟨#[]⟩, .int .i64 7, .float .f64 0, .bool false, .slice none 0 0] 25) := ⟨_, rfl⟩
  have hb3 : Below w.heap.size w W3 := by rw [hW3]; exact hbw2.alloc hbw2.size _
  have hR3 : W3.rangeAt w2.heap.size 0 [.int .i64 3, .string ⟨#[]⟩, .int .i64 7, .float .f64 0, .bool false, .slice none 0 0] := fun j u hj => by rw [hW3, Nat.zero_add, World.cell?_alloc_new]; simpa using hj
  have hB3 : Blk W3 w2.heap.size := by rw [hW3]; exact Blk.new _ _ _
  have hs2 : w.heap.size ≤ w2.heap.size := hbw2.size
  rw [← hW3]
  obtain ⟨B5, hB5⟩ : ∃ B5, B5 = w2.heap.size := ⟨_, rfl⟩
  rw [← hB5] at hR3 hB3 hs2
  rw [← hB5]
  clear hW3 hB5 hbw2 hb1 hb2
  go_loopw [6] (fun s6 wr => ∃ (k : Nat) (a : Option Addr) (cap : Nat), k ≤ dn ∧ s6 = .int .i64 k ∧ wr.rangeAt B5 0 [.int .i64 (nestV k).kind, .string (nestV k).text, .int .i64 (nestV k).int, .float .f64 (nestV k).real, .bool (nestV k).flag, .slice a (nestV k).list.length cap] ∧ Blk wr B5 ∧
    RV (newer (B5 + 1) wr) (cells6 (nestV k).kind (nestV k).text (nestV k).int (nestV k).real (nestV k).flag a (nestV k).list.length cap) (nestV k) ∧ Below w.heap.size w wr) (fun s6 _ => dn - (intOf s6).toNat)
  case atStart => exact ⟨0, none, 0, Nat.zero_le _, rfl, hR3, hB3, RV.leaf _ _ _ _ _ _ _ _, hb3⟩
  case round =>
    obtain ⟨k, a, cap, hk, rfl, hR, hB, hrv, hbel⟩ := hrel
    clear hR3 hB3 hb3
    have hcnt := nest_count k
    have hchk := nest_checkB k (by omega)
    have hdep := nest_dep k
    have hszd := nest_sized k
    obtain ⟨x, hx⟩ : ∃ x, x = nestV k := ⟨_, rfl⟩
    have hstep : nestV (k + 1) = .mk 5 ⟨#[]⟩ 0 0 false [x] := by rw [hx]; rfl
    rw [← hx] at hR hrv hcnt hchk hdep hszd
    have e0 := hR 0 _ rfl
    have e1 := hR 1 _ rfl
    have e2 := hR 2 _ rfl
    have e3 := hR 3 _ rfl
    have e4 := hR 4 _ rfl
    have e5 := hR 5 _ rfl
    simp only [Nat.zero_add] at e0 e1 e2 e3 e4 e5
    replace hR := Lib.hid hR
    replace hrv := Lib.hid hrv
    replace hx := Lib.hid hx
    replace hstep := Lib.hid hstep
    replace hcnt := Lib.hid hcnt
    replace hchk := Lib.hid hchk
    replace hdep := Lib.hid hdep
    have hBl := hB.lt
    by_cases hlt : k < dn
    · go_wp2_with fail
      have hal := (Below.refl wr.heap.size wr).alloc (Nat.le_refl _) (.cells #[.int .i64 x.kind, .string x.text, .int .i64 x.int, .float .f64 x.real, .bool x.flag, .slice a x.list.length cap] 25)
      have hrvA := (hrv.out.mono newer_all).mono (cell_below hal)
      refine (list_any [x] _ 1 1 _ (rv_row 5 ⟨#[]⟩ 0 0 false _ 1 [x] [cells6 x.kind x.text x.int x.real x.flag a x.list.length cap] ((RVs.nil _).snoc hrvA) (fun q u h => by rw [World.cell?_alloc_new]; simpa [cells6] using h)) (by have := hcnt.out; simp only [V.count, V.countL]; omega)).mono ?_
      rintro e w4 ⟨a', cap', rfl, hr4, hb4, -⟩
      have hb4' : Below wr.heap.size wr w4 := hal.trans (hb4.mono (by simp))
      have hB4 := hB.of_block (hb4'.block _ hBl)
      have hR4 : w4.rangeAt B5 0 [.int .i64 x.kind, .string x.text, .int .i64 x.int, .float .f64 x.real, .bool x.flag, .slice a x.list.length cap] := fun j u hj => cell_below hb4' _ _ (hR.out j u hj)
      have ht4 := there_of (n := 6) hR4 hB4 rfl
      have hRn : (w4.setCells B5 0 [.int .i64 5, .string ⟨#[]⟩, .int .i64 0, .float .f64 0, .bool false, .slice a' 1 cap']).rangeAt B5 0 [.int .i64 5, .string ⟨#[]⟩, .int .i64 0, .float .f64 0, .bool false, .slice a' 1 cap'] := World.rangeAt_setCells_same _ _ _ _ ht4
      have hfn : Fr (fun b => b = B5) w4 (w4.setCells B5 0 [.int .i64 5, .string ⟨#[]⟩, .int .i64 0, .float .f64 0, .bool false, .slice a' 1 cap']) := Fr.setCells (S := fun b => b = B5) (fun _ => rfl) _ _ _ (Fr.refl _ w4)
      have hBn := Blk.setCells (b := B5) [.int .i64 5, .string ⟨#[]⟩, .int .i64 0, .float .f64 0, .bool false, .slice a' 1 cap'] 0 w4 hB4
      have hbn : Below w.heap.size w (w4.setCells B5 0 [.int .i64 5, .string ⟨#[]⟩, .int .i64 0, .float .f64 0, .bool false, .slice a' 1 cap']) := (hbel.trans (hb4'.mono hbel.size)).trans (hfn.below (Nat.le_trans hbel.size hb4'.size) (fun i hi h => by omega))
      have hrn : RV (newer (B5 + 1) (w4.setCells B5 0 [.int .i64 5, .string ⟨#[]⟩, .int .i64 0, .float .f64 0, .bool false, .slice a' 1 cap'])) (cells6 5 ⟨#[]⟩ 0 0 false a' 1 cap') (.mk 5 ⟨#[]⟩ 0 0 false [x]) := hr4.mono (fun ad u h => by
        obtain ⟨h1, h2⟩ := newer_cell h
        simp at h2
        unfold newer
        rw [if_neg (by omega)]
        exact hfn.cell h1 (by show ¬ ad.block = B5; omega))
      replace ht4 := Lib.hid ht4
      replace hRn := Lib.hid hRn
      replace hBn := Lib.hid hBn
      replace hbn := Lib.hid hbn
      replace hrn := Lib.hid hrn
      clear e0 e1 e2 e3 e4 e5 hal hrvA hr4 hb4 hb4' hB4 hR4 hfn
      have tok1 : True := trivial
      go_wp2_with ((have _t := tok1; refine wpList_store_mid rfl 25 _ _ rfl B5 0 _ rfl rfl ht4.out infoVal (one6 _ _ _ _ _ _ _ _) ?_; clear tok1 _t))
      go_roundw
      case rel => exact ⟨k + 1, a', cap', by omega, by go_num, by rw [hstep.out]; exact hRn.out, hBn.out, by rw [hstep.out]; exact hrn.out, hbn.out⟩
      case measure => simp [intOf]; omega
    · obtain rfl : k = dn := by omega
      obtain ⟨W, hW⟩ : ∃ W, W = wr.alloc (.cells #[.int .i64 13, .string ⟨#[]⟩, .int .i64 0, .float .f64 0, .bool false, .slice none 0 0] 25) := ⟨_, rfl⟩
      have hbA : Below wr.heap.size wr W := by rw [hW]; exact (Below.refl _ _).alloc (Nat.le_refl _) _
      obtain ⟨B7, hB7⟩ : ∃ B7, B7 = wr.heap.size := ⟨_, rfl⟩
      have hR7 : W.rangeAt B7 0 [.int .i64 13, .string ⟨#[]⟩, .int .i64 0, .float .f64 0, .bool false, .slice none 0 0] := fun j u hj => by rw [hB7, hW, Nat.zero_add, World.cell?_alloc_new]; simpa using hj
      have hBk7 : Blk W B7 := by rw [hB7, hW]; exact Blk.new _ _ _
      have hrvw := hrv.out.mono newer_all
      have hbA' : Below B7 wr W := by rw [hB7]; exact hbA
      replace hW := Lib.hid hW
      replace hB7 := Lib.hid hB7
      replace hrvw := Lib.hid hrvw
      clear hB hrv
      go_wp2_with fail
      rw [← hW.out, ← hB7.out]
      go_loopw [8] (fun s8 wx => ∃ (j : Nat) (ax : Option Addr) (cx : Nat), j ≤ mn ∧ s8 = .int .i64 j ∧ wx.rangeAt B7 0 [.int .i64 13, .string ⟨#[]⟩, .int .i64 0, .float .f64 0, .bool false, .slice ax j cx] ∧ Blk wx B7 ∧
        wx.ownsRow (B7 + 1) 25 6 (.slice ax j cx) j (repC j) ∧ Below B7 wr wx) (fun s8 _ => mn - (intOf s8).toNat)
      case atStart => exact ⟨0, none, 0, Nat.zero_le _, rfl, hR7, hBk7, rep0 W (B7 + 1), hbA'⟩
      case round =>
        rename World => W
        obtain ⟨ne, ae, ce, hj, rfl, hR8, hblk, hrow, hbx⟩ := hrel
        clear hR7 hBk7 hbA hbA' hW
        have hBl : B7 < W.heap.size := hblk.lt
        have hc5 : W.cell? ⟨B7, 5, none⟩ = some (.slice ae ne ce) := by simpa using hR8 5 _ rfl
        have hBo : ¬ (Value.slice ae ne ce).ownBlock = some B7 := fun e => by have := (owns_block hrow B7 e).1; omega
        have hbelW := hbel.trans (hbx.mono (by rw [hB7.out]; exact hbel.size))
        by_cases hjm : ne < mn
        · obtain ⟨xs, hxs⟩ : ∃ xs, xs = repC ne := ⟨_, rfl⟩
          rw [← hxs] at hrow
          replace hxs := Lib.hid hxs
          replace hR8 := Lib.hid hR8
          clear e0 e1 e2 e3 e4 e5
          go_wp2_with fail
          refine wp_region_rely (l := [_, _, _, _, _, _, _]) (fun _ => True) (Below W.heap.size W) dpR (fun k => ([fun v _ => v = .pointer (some ⟨B7, 5, none⟩), fun v _ => v = .slice ae ne ce, fun v _ => v = .agg #[.int .i64 6, .string ⟨#[]⟩, .int .i64 0, .float .f64 0, .bool false, .slice none 0 0], fun v w => ∃ b, v = .slice (some ⟨b, 0, none⟩) 1 1 ∧ w.heap[b]? = some (.cells #[.int .i64 6, .string ⟨#[]⟩, .int .i64 0, .float .f64 0, .bool false, .slice none 0 0] 25 (0, 0)), fun v w => Fr (fun k => (Value.slice ae ne ce).ownBlock = some k) W w ∧ w.ownsRow (B7 + 1) 25 6 v (ne + 1) (xs ++ ([.int .i64 6, .string ⟨#[]⟩, .int .i64 0, .float .f64 0, .bool false, .slice none 0 0] : List Value)), fun v _ => v = .pointer (some ⟨B7, 5, none⟩), fun v w => ∃ (v1 : Value) (w1 : World), w = w1.setCell ⟨B7, 5, none⟩ v1 ∧ Fr (fun k => (Value.slice ae ne ce).ownBlock = some k) W w1 ∧ w1.ownsRow (B7 + 1) 25 6 v1 (ne + 1) (xs ++ ([.int .i64 6, .string ⟨#[]⟩, .int .i64 0, .float .f64 0, .bool false, .slice none 0 0] : List Value))] : List (Value → World → Prop)).getD k (fun _ _ => True)) (eats [(4, 3), (6, 4)]) (isIn [4, 6]) (by kernel_rfl) (by kernel_rfl) (by kernel_rfl) trivial ((Below.refl _ _).drew) ?_ ?_ ?_ ?_
          · intro i k u w w' hne hE hg hr
            rcases k with _ | _ | _ | _ | _ | _ | _ | k
            · exact hg
            · exact hg
            · exact hg
            · replace hg : (fun (v : Value) (w : World) => ∃ b, v = .slice (some ⟨b, 0, none⟩) 1 1 ∧ w.heap[b]? = some (.cells #[.int .i64 6, .string ⟨#[]⟩, .int .i64 0, .float .f64 0, .bool false, .slice none 0 0] 25 (0, 0))) u w := hg
              show (fun (v : Value) (w : World) => ∃ b, v = .slice (some ⟨b, 0, none⟩) 1 1 ∧ w.heap[b]? = some (.cells #[.int .i64 6, .string ⟨#[]⟩, .int .i64 0, .float .f64 0, .bool false, .slice none 0 0] 25 (0, 0))) u w'
              dsimp only at hg ⊢
              replace hE : exB _ _ i 3 = false := hE
              replace hne : 3 ≠ i := hne
              unfold dpR at hr
              split at hr
              all_goals first
                | exact absurd rfl hne
                | exact absurd (hE.symm.trans (by decide +kernel : exB _ _ _ _ = true)) (by decide)
                | (subst hr; exact hg)
                | ((obtain ⟨b, h1, h2⟩ := hg; exact ⟨b, h1, (hr.block b (Array.getElem?_eq_some_iff.1 h2).1).trans h2⟩))
            · replace hg : (fun (v : Value) (w : World) => Fr (fun k => (Value.slice ae ne ce).ownBlock = some k) W w ∧ w.ownsRow (B7 + 1) 25 6 v (ne + 1) (xs ++ ([.int .i64 6, .string ⟨#[]⟩, .int .i64 0, .float .f64 0, .bool false, .slice none 0 0] : List Value))) u w := hg
              show (fun (v : Value) (w : World) => Fr (fun k => (Value.slice ae ne ce).ownBlock = some k) W w ∧ w.ownsRow (B7 + 1) 25 6 v (ne + 1) (xs ++ ([.int .i64 6, .string ⟨#[]⟩, .int .i64 0, .float .f64 0, .bool false, .slice none 0 0] : List Value))) u w'
              dsimp only at hg ⊢
              replace hE : exB _ _ i 4 = false := hE
              replace hne : 4 ≠ i := hne
              unfold dpR at hr
              split at hr
              all_goals first
                | exact absurd rfl hne
                | exact absurd (hE.symm.trans (by decide +kernel : exB _ _ _ _ = true)) (by decide)
                | (subst hr; exact hg)
                | (fail)
            · exact hg
            · replace hg : (fun (v : Value) (w : World) => ∃ (v1 : Value) (w1 : World), w = w1.setCell ⟨B7, 5, none⟩ v1 ∧ Fr (fun k => (Value.slice ae ne ce).ownBlock = some k) W w1 ∧ w1.ownsRow (B7 + 1) 25 6 v1 (ne + 1) (xs ++ ([.int .i64 6, .string ⟨#[]⟩, .int .i64 0, .float .f64 0, .bool false, .slice none 0 0] : List Value))) u w := hg
              show (fun (v : Value) (w : World) => ∃ (v1 : Value) (w1 : World), w = w1.setCell ⟨B7, 5, none⟩ v1 ∧ Fr (fun k => (Value.slice ae ne ce).ownBlock = some k) W w1 ∧ w1.ownsRow (B7 + 1) 25 6 v1 (ne + 1) (xs ++ ([.int .i64 6, .string ⟨#[]⟩, .int .i64 0, .float .f64 0, .bool false, .slice none 0 0] : List Value))) u w'
              dsimp only at hg ⊢
              replace hE : exB _ _ i 6 = false := hE
              replace hne : 6 ≠ i := hne
              unfold dpR at hr
              split at hr
              all_goals first
                | exact absurd rfl hne
                | exact absurd (hE.symm.trans (by decide +kernel : exB _ _ _ _ = true)) (by decide)
                | (subst hr; exact hg)
                | (fail)
            · trivial
          · intro i w w' hF hI hr
            unfold dpR at hr
            split at hr
            · exact hI.trans (hr.mono hI.size)
            · exact hI.trans (hr.mono hI.size)
            · exact absurd hF (by decide)
            · exact absurd hF (by decide)
            · subst hr; exact hI
          · refine ⟨?_, ?_, ?_, ?_, ?_, ?_, ?_, trivial⟩
            · refine VC.plain rfl fun a wx hf => ?_
              have s7 := hf.old 7 (by rfl)
              have q7 := evalQ s7
              exact gives_value (by simp [go_sem, q7]) ⟨hf.c, rfl, rfl⟩
            · refine VC.plain rfl fun a wx hf => ?_
              obtain ⟨v40, g40, s40⟩ := hf.got 0 (by kernel_rfl) (by intro j hj; simp [eats] at hj) rfl rfl
              replace s40 := s40.trans (show v40 = .pointer (some ⟨B7, 5, none⟩) from g40)
              clear g40
              have q40 := evalQ s40
              have hI := hf.start (by kernel_rfl)
              exact gives_value (by simp [go_sem, q40, hI.cell (p := ⟨B7, 5, none⟩) hBl, hc5]) ⟨trivial, rfl, rfl⟩
            · refine VC.plain rfl fun a wx hf => ?_
              exact gives_call (f := 19) (args := #[]) (by simp [go_sem]) ((nil_any wx).mono fun e w' ⟨he, hb⟩ => ⟨_, he, trivial, hb, rfl⟩)
            · refine VC.plain rfl fun a wx hf => ?_
              obtain ⟨v42, g42, s42⟩ := hf.got 2 (by kernel_rfl) (by intro j hj; simp [eats] at hj) rfl rfl
              replace s42 := s42.trans (show v42 = .agg #[.int .i64 6, .string ⟨#[]⟩, .int .i64 0, .float .f64 0, .bool false, .slice none 0 0] from g42)
              clear g42
              have q42 := evalQ s42
              exact gives_value (u := .slice (some ⟨wx.heap.size, 0, none⟩) 1 1) (w' := wx.alloc (.cells #[.int .i64 6, .string ⟨#[]⟩, .int .i64 0, .float .f64 0, .bool false, .slice none 0 0] 25)) (by simp [go_sem, q42, Tryd.underlying23]) ⟨trivial, (Below.refl _ _).alloc (Nat.le_refl _) _, wx.heap.size, rfl, (MapKept.heap_alloc wx _).1⟩
            · refine VC.plain rfl fun a wx hf => ?_
              obtain ⟨v41, g41, s41⟩ := hf.got 1 (by kernel_rfl) (by intro j hj; simp [eats] at hj) rfl rfl
              replace s41 := s41.trans (show v41 = .slice ae ne ce from g41)
              clear g41
              have q41 := evalQ s41
              obtain ⟨v43, g43, s43⟩ := hf.got 3 (by kernel_rfl) (by intro j hj; simp [eats] at hj; omega) rfl rfl
              have q43 := evalQ s43
              replace g43 : (fun (v : Value) (w : World) => ∃ b, v = .slice (some ⟨b, 0, none⟩) 1 1 ∧ w.heap[b]? = some (.cells #[.int .i64 6, .string ⟨#[]⟩, .int .i64 0, .float .f64 0, .bool false, .slice none 0 0] 25 (0, 0))) v43 wx := g43
              dsimp only at g43
              have hI := hf.start (by kernel_rfl)
              obtain ⟨b, rfl, hb⟩ := g43
              have hown1 : wx.ownsRow (B7 + 1) 25 6 (.slice ae ne ce) ne xs := owns_fr hrow (Fr.of_below hI) (fun k hk hle => by have := (owns_block hrow k hk).2; omega)
              refine gives_append rfl eVal s41 hown1 s43 (reads_block hb rfl) (fun h => by cases h) (by simp [Value.oneCell']) (by omega) (by have := hI.size; omega) (fun v' w' h1 h2 h3 => ?_)
              have hfr : Fr (fun k => (Value.slice ae ne ce).ownBlock = some k) W w' := Fr.trans ((Fr.of_below hI).mono (fun j hj hle => absurd hle (by omega))) h2
              exact ⟨trivial, trivial, hfr, h1⟩
            · refine VC.plain rfl fun a wx hf => ?_
              have s7 := hf.old 7 (by rfl)
              have q7 := evalQ s7
              exact gives_value (by simp [go_sem, q7]) ⟨hf.c, rfl, rfl⟩
            · refine VC.plain rfl fun a wx hf => ?_
              obtain ⟨v45, g45, s45⟩ := hf.got 5 (by kernel_rfl) (by intro j hj; simp [eats] at hj) rfl rfl
              replace s45 := s45.trans (show v45 = .pointer (some ⟨B7, 5, none⟩) from g45)
              clear g45
              have q45 := evalQ s45
              obtain ⟨v44, g44, s44⟩ := hf.got 4 (by kernel_rfl) (by intro j hj; simp [eats] at hj; omega) rfl rfl
              have q44 := evalQ s44
              replace g44 : (fun (v : Value) (w : World) => Fr (fun k => (Value.slice ae ne ce).ownBlock = some k) W w ∧ w.ownsRow (B7 + 1) 25 6 v (ne + 1) (xs ++ ([.int .i64 6, .string ⟨#[]⟩, .int .i64 0, .float .f64 0, .bool false, .slice none 0 0] : List Value))) v44 wx := g44
              dsimp only at g44
              obtain ⟨h1, h2⟩ := g44
              obtain ⟨a31, c31, rfl⟩ := (Reads.of_owns h2).shape
              exact gives_skip (w' := wx.setCell ⟨B7, 5, none⟩ _) (by simp [go_sem, q44, q45, h1.cell (p := ⟨B7, 5, none⟩) hc5 hBo, (hblk.fr h1 hBo).frz 5 none]) ⟨trivial, trivial, _, wx, rfl, h1, h2⟩
          · intro vs w5 hb hG
            obtain ⟨v1, w6, e, g1, g2⟩ := hG 6 (by decide) (by decide)
            clear hG
            subst e
            obtain ⟨a8, c8, rfl⟩ := (Reads.of_owns g2).shape
            have hfs : Fr (fun k => k = B7 ∨ (Value.slice ae ne ce).ownBlock = some k) W (w6.setCell ⟨B7, 5, none⟩ (.slice a8 (ne + 1) c8)) := Fr.setCell (S := fun k => k = B7 ∨ (Value.slice ae ne ce).ownBlock = some k) (g1.mono (fun _ _ h => Or.inr h)) (fun _ => Or.inl rfl) _
            have hk0 : ∀ j u, j ≠ 5 → W.cell? ⟨B7, j, none⟩ = some u → (w6.setCell ⟨B7, 5, none⟩ (.slice a8 (ne + 1) c8)).cell? ⟨B7, j, none⟩ = some u := fun j u hj hu => by
              rw [cell_set_ne (fun e => hj (congrArg Addr.off e).symm)]; exact g1.cell hu hBo
            have hRn : (w6.setCell ⟨B7, 5, none⟩ (.slice a8 (ne + 1) c8)).rangeAt B7 0 [.int .i64 13, .string ⟨#[]⟩, .int .i64 0, .float .f64 0, .bool false, .slice a8 (ne + 1) c8] :=
              range6 (hk0 _ _ (by omega) (by simpa using hR8.out 0 _ rfl)) (hk0 _ _ (by omega) (by simpa using hR8.out 1 _ rfl)) (hk0 _ _ (by omega) (by simpa using hR8.out 2 _ rfl)) (hk0 _ _ (by omega) (by simpa using hR8.out 3 _ rfl)) (hk0 _ _ (by omega) (by simpa using hR8.out 4 _ rfl)) (cell_set_eq (g1.cell hc5 hBo))
            have hBn : Blk (w6.setCell ⟨B7, 5, none⟩ (.slice a8 (ne + 1) c8)) B7 := (hblk.fr g1 hBo).setCell _ _
            have hown9 : (w6.setCell ⟨B7, 5, none⟩ (.slice a8 (ne + 1) c8)).ownsRow (B7 + 1) 25 6 (.slice a8 (ne + 1) c8) (ne + 1) (repC (ne + 1)) := by
              rw [repC_succ, ← hxs.out]
              exact owns_fr g2 (Fr.setCell (S := (· = B7)) (Fr.refl _ _) (fun _ => rfl) _) (fun k hk e => by have := (owns_block g2 k hk).1; omega)
            have hbn : Below B7 wr (w6.setCell ⟨B7, 5, none⟩ (.slice a8 (ne + 1) c8)) := hbx.trans (hfs.below (by omega) (fun i hi e => by
              rcases e with e | e
              · omega
              · have := (owns_block hrow i e).1; omega))
            replace hRn := Lib.hid hRn
            replace hBn := Lib.hid hBn
            replace hown9 := Lib.hid hown9
            replace hbn := Lib.hid hbn
            clear hk0 hfs g1 g2 hc5 hBo hrow hblk
            simp only [putFrom, Act.put, List.setIfInBounds_toArray, List.set_cons_zero, List.set_cons_succ]
            go_wp2
            go_roundw
            case rel => exact ⟨ne + 1, a8, c8, by omega, by go_num, hRn.out, hBn.out, hown9.out, hbn.out⟩
            case measure => simp [intOf]; omega
        · obtain rfl : ne = mn := by omega
          have hbx' : Below wr.heap.size wr W := by rw [← hB7.out]; exact hbx
          replace e0 := cell_below hbx' _ _ e0
          replace e1 := cell_below hbx' _ _ e1
          replace e2 := cell_below hbx' _ _ e2
          replace e3 := cell_below hbx' _ _ e3
          replace e4 := cell_below hbx' _ _ e4
          replace e5 := cell_below hbx' _ _ e5
          have s0 := hR8 0 _ rfl
          have s1 := hR8 1 _ rfl
          have s2 := hR8 2 _ rfl
          have s3 := hR8 3 _ rfl
          have s4 := hR8 4 _ rfl
          have s5 := hR8 5 _ rfl
          simp only [Nat.zero_add] at s0 s1 s2 s3 s4 s5
          have hl5 : B5 < W.heap.size := World.block_lt_of_cell? W ⟨B5, 0, none⟩ e0
          have hrx := hrvw.out.mono (cell_below hbx')
          have hrs := set_rv hrow
          have hck := fun w' h => check_any x a cap w' h hszd (by have := hcnt.out; omega)
          have hdp := fun w' h => depth_any x a cap w' h (by have := hcnt.out; omega)
          have hct := fun w' h => count_any x a cap w' h (by have := hcnt.out; omega)
          have hsk := fun w' h => setck ne ae ce w' h (by omega)
          have hsc := fun w' h => setct ne ae ce w' h (by omega)
          replace hR8 := Lib.hid hR8
          replace hrx := Lib.hid hrx
          replace hrs := Lib.hid hrs
          rw [hdep.out] at hdp
          rw [hcnt.out] at hct
          have hz := check_or x
          have hzs := check_or (setV ne)
          have hzb := hchk.out
          have hzc := set_checkB ne
          rcases hz with hz | hz
          · rcases hzs with hzs | hzs
            · rw [hz] at hzb hck
              rw [hzs] at hzc hsk
              have h8 : decide ((k : Int) ≤ 8) = true := by simp at hzb ⊢; omega
              have h9 : decide ((ne : Int) < 1000) = true := by simp at hzc ⊢; omega
              have hw1 : IntKind.i64.wrap ((k : Int) + 1) = (k : Int) + 1 := IntWalk.i64_in _ (by omega)
              have hw2 : IntKind.i64.wrap ((ne : Int) + 1) = (ne : Int) + 1 := IntWalk.i64_in _ (by omega)
              replace hz := Lib.hid hz
              replace hzs := Lib.hid hzs
              replace hzb := Lib.hid hzb
              replace hzc := Lib.hid hzc
              replace hck := Lib.hid hck
              replace hdp := Lib.hid hdp
              replace hct := Lib.hid hct
              replace hsk := Lib.hid hsk
              replace hsc := Lib.hid hsc
              go_upto_region 15 with fail
              refine wp_region_grow_plain ?_
              repeat (go_big_quiet_step ((first
                              | (go_at_call 11; (with_reducible refine quiet_grow (hck.out _ ?_)); exact (hrx.out.mono (cell_below (grow_below W _))))
                              | (go_at_call 13; (with_reducible refine quiet_grow (hdp.out _ ?_)); exact (hrx.out.mono (cell_below (grow_below W _))))
                              | (go_at_call 15; (with_reducible refine quiet_grow (hct.out _ ?_)); exact (hrx.out.mono (cell_below (grow_below W _))))
                              | (go_at_call 11; (with_reducible refine quiet_grow (hsk.out _ ?_)); exact (hrs.out.mono (cell_below (grow_below W _))))
                              | (go_at_call 15; (with_reducible refine quiet_grow (hsc.out _ ?_)); exact (hrs.out.mono (cell_below (grow_below W _)))))))
              refine wpQuiet_nil ?_
              rintro _ ⟨xq, rfl⟩
              have hbf := hbelW.trans ((grow_below W xq).mono hbelW.size)
              go_wp2
              go_ret
              exact ⟨rfl, hbf⟩
            · rw [hz] at hzb hck
              rw [hzs] at hzc hsk
              have h8 : decide ((k : Int) ≤ 8) = true := by simp at hzb ⊢; omega
              have h9 : decide ((ne : Int) < 1000) = false := by simp at hzc ⊢; omega
              have hw1 : IntKind.i64.wrap ((k : Int) + 1) = (k : Int) + 1 := IntWalk.i64_in _ (by omega)
              have hw2 : IntKind.i64.wrap ((ne : Int) + 1) = (ne : Int) + 1 := IntWalk.i64_in _ (by omega)
              replace hz := Lib.hid hz
              replace hzs := Lib.hid hzs
              replace hzb := Lib.hid hzb
              replace hzc := Lib.hid hzc
              replace hck := Lib.hid hck
              replace hdp := Lib.hid hdp
              replace hct := Lib.hid hct
              replace hsk := Lib.hid hsk
              replace hsc := Lib.hid hsc
              go_upto_region 15 with fail
              refine wp_region_grow_plain ?_
              repeat (go_big_quiet_step ((first
                              | (go_at_call 11; (with_reducible refine quiet_grow (hck.out _ ?_)); exact (hrx.out.mono (cell_below (grow_below W _))))
                              | (go_at_call 13; (with_reducible refine quiet_grow (hdp.out _ ?_)); exact (hrx.out.mono (cell_below (grow_below W _))))
                              | (go_at_call 15; (with_reducible refine quiet_grow (hct.out _ ?_)); exact (hrx.out.mono (cell_below (grow_below W _))))
                              | (go_at_call 11; (with_reducible refine quiet_grow (hsk.out _ ?_)); exact (hrs.out.mono (cell_below (grow_below W _))))
                              | (go_at_call 15; (with_reducible refine quiet_grow (hsc.out _ ?_)); exact (hrs.out.mono (cell_below (grow_below W _)))))))
              refine wpQuiet_nil ?_
              rintro _ ⟨xq, rfl⟩
              have hbf := hbelW.trans ((grow_below W xq).mono hbelW.size)
              go_wp2
              go_ret
              exact ⟨rfl, hbf⟩
          · rcases hzs with hzs | hzs
            · rw [hz] at hzb hck
              rw [hzs] at hzc hsk
              have h8 : decide ((k : Int) ≤ 8) = false := by simp at hzb ⊢; omega
              have h9 : decide ((ne : Int) < 1000) = true := by simp at hzc ⊢; omega
              have hw1 : IntKind.i64.wrap ((k : Int) + 1) = (k : Int) + 1 := IntWalk.i64_in _ (by omega)
              have hw2 : IntKind.i64.wrap ((ne : Int) + 1) = (ne : Int) + 1 := IntWalk.i64_in _ (by omega)
              replace hz := Lib.hid hz
              replace hzs := Lib.hid hzs
              replace hzb := Lib.hid hzb
              replace hzc := Lib.hid hzc
              replace hck := Lib.hid hck
              replace hdp := Lib.hid hdp
              replace hct := Lib.hid hct
              replace hsk := Lib.hid hsk
              replace hsc := Lib.hid hsc
              go_upto_region 15 with fail
              refine wp_region_grow_plain ?_
              repeat (go_big_quiet_step ((first
                              | (go_at_call 11; (with_reducible refine quiet_grow (hck.out _ ?_)); exact (hrx.out.mono (cell_below (grow_below W _))))
                              | (go_at_call 13; (with_reducible refine quiet_grow (hdp.out _ ?_)); exact (hrx.out.mono (cell_below (grow_below W _))))
                              | (go_at_call 15; (with_reducible refine quiet_grow (hct.out _ ?_)); exact (hrx.out.mono (cell_below (grow_below W _))))
                              | (go_at_call 11; (with_reducible refine quiet_grow (hsk.out _ ?_)); exact (hrs.out.mono (cell_below (grow_below W _))))
                              | (go_at_call 15; (with_reducible refine quiet_grow (hsc.out _ ?_)); exact (hrs.out.mono (cell_below (grow_below W _)))))))
              refine wpQuiet_nil ?_
              rintro _ ⟨xq, rfl⟩
              have hbf := hbelW.trans ((grow_below W xq).mono hbelW.size)
              go_wp2
              go_ret
              exact ⟨rfl, hbf⟩
            · rw [hz] at hzb hck
              rw [hzs] at hzc hsk
              have h8 : decide ((k : Int) ≤ 8) = false := by simp at hzb ⊢; omega
              have h9 : decide ((ne : Int) < 1000) = false := by simp at hzc ⊢; omega
              have hw1 : IntKind.i64.wrap ((k : Int) + 1) = (k : Int) + 1 := IntWalk.i64_in _ (by omega)
              have hw2 : IntKind.i64.wrap ((ne : Int) + 1) = (ne : Int) + 1 := IntWalk.i64_in _ (by omega)
              replace hz := Lib.hid hz
              replace hzs := Lib.hid hzs
              replace hzb := Lib.hid hzb
              replace hzc := Lib.hid hzc
              replace hck := Lib.hid hck
              replace hdp := Lib.hid hdp
              replace hct := Lib.hid hct
              replace hsk := Lib.hid hsk
              replace hsc := Lib.hid hsc
              go_upto_region 15 with fail
              refine wp_region_grow_plain ?_
              repeat (go_big_quiet_step ((first
                              | (go_at_call 11; (with_reducible refine quiet_grow (hck.out _ ?_)); exact (hrx.out.mono (cell_below (grow_below W _))))
                              | (go_at_call 13; (with_reducible refine quiet_grow (hdp.out _ ?_)); exact (hrx.out.mono (cell_below (grow_below W _))))
                              | (go_at_call 15; (with_reducible refine quiet_grow (hct.out _ ?_)); exact (hrx.out.mono (cell_below (grow_below W _))))
                              | (go_at_call 11; (with_reducible refine quiet_grow (hsk.out _ ?_)); exact (hrs.out.mono (cell_below (grow_below W _))))
                              | (go_at_call 15; (with_reducible refine quiet_grow (hsc.out _ ?_)); exact (hrs.out.mono (cell_below (grow_below W _)))))))
              refine wpQuiet_nil ?_
              rintro _ ⟨xq, rfl⟩
              have hbf := hbelW.trans ((grow_below W xq).mono hbelW.size)
              go_wp2
              go_ret
              exact ⟨rfl, hbf⟩
end Go.Proofs.YtapiinfnedhmoaaDoor
