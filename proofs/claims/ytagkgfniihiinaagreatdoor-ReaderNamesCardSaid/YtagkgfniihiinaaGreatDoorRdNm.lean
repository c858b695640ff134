/- ReaderNames: the walk. -/
import Derived.Test.YtagkgfniihiinaaGreatDoorRdA
namespace Go.Proofs.YtagkgfniihiinaaGreatDoor
open Go.RowKit

/-- What stays: what is laid; the first value's kind. -/
structure St (w : World) (b : Nat) (W : World) : Prop where
  nums : Nums W
  below : Below w.heap.size w W
  cell : W.cell? ⟨b, 0, none⟩ = some (.int .i64 6)
theorem St.move {w W W' : World} {b : Nat} (h : St w b W) (hb : Below W.heap.size W W') : St w b W' := ⟨h.nums.below hb, h.below.trans (hb.mono h.below.size), cell_below hb _ _ h.cell⟩
theorem St.fr {w W W' : World} {b r B : Nat} (hN : Nums w) (h : St w b W) (hf : Fr (fun k => k = r ∨ B ≤ k) W W') (hr : b < r) (hB : r < B) (hw : w.heap.size ≤ b) : St w b W' := by
  have hb := h.below.trans (hf.below h.below.size (fun i hi e => by rcases e with e | e <;> omega))
  exact ⟨hN.below hb, hb, hf.cell h.cell (by show ¬ (b = r ∨ B ≤ b); omega)⟩
set_option maxRecDepth 100000 in
set_option maxHeartbeats 6400000 in
theorem names05_any {w : World} (hN : Nums w) : Calls Tryz.prog 7 #[] w fun e w' => e = .returned (.bool true) ∧ Below w.heap.size w w' := by
  have kc := fun (W : World) (C : Array Value) (n c : Nat) => Lib.run_convert_bytes_const (P := Tryz.prog) W 27 5 C n c Tryz.underlying27 Tryz.underlying5
  replace hN := Lib.hid hN
  go_enter Tryz.func7, Tryz.ntmps7
  go_wp2_with fail
  refine (alive05_any hN.out).mono ?_
  rintro e w1 ⟨rfl, hb1⟩
  have hN1 := hN.out.below hb1
  replace hb1 := Lib.hid hb1
  replace hN1 := Lib.hid hN1
  go_wp2_with fail
  refine (parse_lit (t := t3) hN1.out (by rfl) (by rfl) (by decide) sc3.2).mono ?_
  rintro e w2 ⟨he, hb2⟩
  rw [sc3.1] at he
  obtain ⟨a2, ca2, he, _, _⟩ := he
  have he : e = .returned (.tuple #[.agg #[.int .i64 6, .string ⟨#[]⟩, .int .i64 0, .float .f64 0, .bool false, .slice a2 0 ca2], .int .i64 5, .int .i64 0]) := he
  subst he
  have hb02 := hb1.out.trans (hb2.mono hb1.out.size)
  have hv := new_val w2 26 [.int .i64 6, .string ⟨#[]⟩, .int .i64 0, .float .f64 0, .bool false, .slice a2 0 ca2] rfl
  have hth := new_there w2 26
  clear hb1 hN1 hb2
  replace hb02 := Lib.hid hb02
  replace hv := Lib.hid hv
  replace hth := Lib.hid hth
  have tok1 : True := trivial
  go_upto_region 4 with (have _t := tok1; refine wpList_store_mid rfl 26 _ _ rfl w2.heap.size 0 _ rfl rfl hth.out infoVal (one6 _ _ _ _ _ _ _ _) ?_; clear tok1 _t)
  generalize (w2.alloc (.cells #[Value.int .i64 0, .string ⟨#[]⟩, .int .i64 0, .float .f64 0, .bool false, .slice none 0 0] 26)).setCells w2.heap.size 0 [Value.int .i64 6, .string ⟨#[]⟩, .int .i64 0, .float .f64 0, .bool false, .slice a2 0 ca2] = w3 at hv ⊢
  obtain ⟨hb23, rv, kv⟩ := hv.out
  obtain ⟨b, hb⟩ : ∃ b, b = w2.heap.size := ⟨_, rfl⟩
  rw [← hb] at rv ⊢
  have hwb : w.heap.size ≤ b := by rw [hb]; exact hb02.out.size
  have hbw3 : b < w3.heap.size := by rw [hb]; exact kv.lt
  have s3 : St w b w3 := by
    have h9 := hb02.out.trans (hb23.mono hb02.out.size)
    exact ⟨hN.out.below h9, h9, by have := rv 0 _ rfl; rw [Nat.zero_add] at this; exact this⟩
  clear hv hth hb23 rv kv hb02
  replace hb := Lib.hid hb
  replace s3 := Lib.hid s3
  go_wp2_with fail
  refine (parse_lit (t := t4) s3.out.nums (by rfl) (by rfl) (by decide) sc4.2).mono ?_
  rintro e s4a ⟨he, hbp⟩
  rw [sc4.1] at he
  obtain ⟨rfl, _⟩ := he
  have s40 := s3.out.move hbp
  clear s3 hbp
  replace s40 := Lib.hid s40
  go_upto_region 5 with fail
  obtain ⟨s4w, hs4w⟩ : ∃ W, W = World.alloc s4a (.cells #[.int .i64 0, .string ⟨#[]⟩, .int .i64 0, .float .f64 0, .bool false, .slice none 0 0] 26) := ⟨_, rfl⟩
  rw [← hs4w]
  have hbz : Below (World.heap s4a).size s4a s4w := by rw [hs4w]; exact (Below.refl _ _).alloc (Nat.le_refl _) _
  have hszs4 := hbz.size
  have s4 := s40.out.move hbz
  replace hs4w := Lib.hid hs4w
  replace s4 := Lib.hid s4
  clear s40
  clear hbz
  go_wp2_with fail
  refine (parse_lit (t := t5) s4.out.nums (by rfl) (by rfl) (by decide) sc5.2).mono ?_
  rintro e s5a ⟨he, hbp⟩
  rw [sc5.1] at he
  obtain ⟨rfl, _⟩ := he
  have s50 := s4.out.move hbp
  clear s4 hbp
  replace s50 := Lib.hid s50
  go_upto_region 6 with fail
  obtain ⟨s5w, hs5w⟩ : ∃ W, W = World.alloc s5a (.cells #[.int .i64 0, .string ⟨#[]⟩, .int .i64 0, .float .f64 0, .bool false, .slice none 0 0] 26) := ⟨_, rfl⟩
  rw [← hs5w]
  have hbz : Below (World.heap s5a).size s5a s5w := by rw [hs5w]; exact (Below.refl _ _).alloc (Nat.le_refl _) _
  have hszs5 := hbz.size
  have s5 := s50.out.move hbz
  replace hs5w := Lib.hid hs5w
  replace s5 := Lib.hid s5
  clear s50
  clear hbz
  go_wp2_with fail
  refine (parse_lit (t := t6) s5.out.nums (by rfl) (by rfl) (by decide) sc6.2).mono ?_
  rintro e s6a ⟨he, hbp⟩
  rw [sc6.1] at he
  obtain ⟨rfl, _⟩ := he
  have s60 := s5.out.move hbp
  clear s5 hbp
  replace s60 := Lib.hid s60
  go_upto_region 7 with fail
  obtain ⟨s6w, hs6w⟩ : ∃ W, W = World.alloc s6a (.cells #[.int .i64 0, .string ⟨#[]⟩, .int .i64 0, .float .f64 0, .bool false, .slice none 0 0] 26) := ⟨_, rfl⟩
  rw [← hs6w]
  have hbz : Below (World.heap s6a).size s6a s6w := by rw [hs6w]; exact (Below.refl _ _).alloc (Nat.le_refl _) _
  have hszs6 := hbz.size
  have s6 := s60.out.move hbz
  replace hs6w := Lib.hid hs6w
  replace s6 := Lib.hid s6
  clear s60
  clear hbz
  have hbw6 : b < s6w.heap.size := World.block_lt_of_cell? _ _ s6.out.cell
  go_wp2_with fail
  obtain ⟨w7, hw7⟩ : ∃ W, W = s6w.alloc (.cells #[.slice none 0 0, .int .i64 0] 74) := ⟨_, rfl⟩
  have hbz : Below s6w.heap.size s6w w7 := by rw [hw7]; exact (Below.refl _ _).alloc (Nat.le_refl _) _
  have s7 := s6.out.move hbz
  have hR := rdr_new s6w
  rw [← hw7] at hR
  obtain ⟨r, hr⟩ : ∃ r, r = s6w.heap.size := ⟨_, rfl⟩
  rw [← hr] at hR hbw6
  clear hbz s6
  replace s7 := Lib.hid s7
  replace hR := Lib.hid hR
  replace hw7 := Lib.hid hw7
  refine (new_any s6w).mono ?_
  rintro e w' ⟨rfl, hww⟩
  rw [← hw7.out] at hww
  obtain rfl := hww.symm
  clear hww
  rw [← hr]
  replace hr := Lib.hid hr
  go_wp2_with fail
  refine (feed_lit (t := t7) hR.out (by rfl) (by rfl) (by decide)).mono ?_
  rintro e w8 ⟨v8, rfl, hR8, hf⟩
  have s8 := s7.out.fr hN.out hf hbw6 (Nat.lt_succ_self _) hwb
  rw [nil_left] at hR8
  clear hf hR s7
  replace s8 := Lib.hid s8
  replace hR8 := Lib.hid hR8
  go_wp2_with fail
  refine (next_stopq (rp := rp0) (q := 51) hR8.out (by decide) (by decide) (env0 s8.out.nums) sc7.2 sc7.1).mono ?_
  intro e w9 he
  obtain ⟨he, hR9, hf⟩ := he
  have he : e = .returned (.tuple #[.agg #[.int .i64 0, .string ⟨#[]⟩, .int .i64 0, .float .f64 0, .bool false, .slice none 0 0], .bool false, .int .i64 51]) := he
  subst he
  have s9 := s8.out.fr (B := r + 1) hN.out (hf.mono fun i _ e => .inl e) hbw6 (Nat.lt_succ_self _) hwb
  clear hf hR8 s8
  replace s9 := Lib.hid s9
  replace hR9 := Lib.hid hR9
  go_upto_region 10 with fail
  obtain ⟨s10w, hs10w⟩ : ∃ W, W = World.alloc w9 (.cells #[.int .i64 0, .string ⟨#[]⟩, .int .i64 0, .float .f64 0, .bool false, .slice none 0 0] 26) := ⟨_, rfl⟩
  rw [← hs10w]
  have hbz : Below (World.heap w9).size w9 s10w := by rw [hs10w]; exact (Below.refl _ _).alloc (Nat.le_refl _) _
  have hszs10 := hbz.size
  have s10 := s9.out.move hbz
  replace hs10w := Lib.hid hs10w
  replace s10 := Lib.hid s10
  clear s9
  have hR10 := hR9.out.below hbz
  clear hbz hR9
  replace hR10 := Lib.hid hR10
  go_wp2_with fail
  refine (feed_lit_err hR10.out (by decide)).mono ?_
  rintro e w11 ⟨rfl, hR11, hb11⟩
  have s11 := s10.out.move hb11
  clear hb11 hR10 s10
  replace s11 := Lib.hid s11
  replace hR11 := Lib.hid hR11
  go_wp2_with fail
  refine (R2.next_err hR11.out (by decide)).mono ?_
  intro e w12 he
  obtain ⟨he, hb12⟩ := he
  have he : e = .returned (.tuple #[.agg #[.int .i64 0, .string ⟨#[]⟩, .int .i64 0, .float .f64 0, .bool false, .slice none 0 0], .bool false, .int .i64 51]) := he
  subst he
  have s12 := s11.out.move hb12
  have hR12 := hR11.out.below hb12
  clear hb12 hR11 s11
  replace s12 := Lib.hid s12
  replace hR12 := Lib.hid hR12
  go_upto_region 12 with fail
  obtain ⟨s13w, hs13w⟩ : ∃ W, W = World.alloc w12 (.cells #[.int .i64 0, .string ⟨#[]⟩, .int .i64 0, .float .f64 0, .bool false, .slice none 0 0] 26) := ⟨_, rfl⟩
  rw [← hs13w]
  have hbz : Below (World.heap w12).size w12 s13w := by rw [hs13w]; exact (Below.refl _ _).alloc (Nat.le_refl _) _
  have hszs13 := hbz.size
  have s13 := s12.out.move hbz
  replace hs13w := Lib.hid hs13w
  replace s13 := Lib.hid s13
  clear s12
  have hR13 := hR12.out.below hbz
  have hL := left_any (n := 0) hR13.c0
  have d0 := s13.out.cell
  clear hbz hR12
  replace hL := Lib.hid hL
  replace hR13 := Lib.hid hR13
  go_wp2_with fail
  refine (hL.out).mono ?_
  rintro e w' ⟨rfl, hww⟩
  obtain rfl := hww.symm
  go_wp2_with fail
  go_ret
  exact ⟨rfl, s13.out.below⟩
end Go.Proofs.YtagkgfniihiinaaGreatDoor
