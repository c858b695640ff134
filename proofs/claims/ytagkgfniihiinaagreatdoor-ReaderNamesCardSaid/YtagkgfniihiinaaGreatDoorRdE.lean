/- The reader: a value that is a list. -/
import Derived.Test.YtagkgfniihiinaaGreatDoorRdQ
import Derived.Test.YtagkgfniihiinaaGreatDoorRdU
namespace Go.Proofs.YtagkgfniihiinaaGreatDoor
open Go.RowKit

set_option maxRecDepth 100000 in
set_option maxHeartbeats 6400000 in
theorem value_liststop {rp : Rp} {w0 w : World} {g b o n cap at_ many u q len N : Nat} {s : ByteArray} {d : Int} {c : UInt8} {t L : List UInt8} (h : RS rp w0 w g b o n cap s at_ many) (hL : s.data.toList.drop at_ = c :: L)
    (hk : (kindR c = 5 ∧ N = len) ∨ (kindR c = 13 ∧ N = len) ∨ (kindR c = 14 ∧ N = len) ∨ (kindR c = 12 ∧ N = 2 * len)) (hl : lineS L = .got (t, u)) (hn : ¬ (t = [45, 49] ∧ (kindR c = 4 ∨ kindR c = 5))) (hm : numS t 1000 = some len)
    (hcall : ∀ W, RS rp w0 W g b o n cap s (at_ + 1 + u) many → Calls Tryz.prog 70 #[.pointer (some ⟨g, 0, none⟩), .int .i64 (kindR c : Int), .int .i64 (N : Int), .int .i64 d] W fun e w' => e = stopE q ∧ Fr (fun k => k = g) W w') :
    Calls Tryz.prog 46 #[.pointer (some ⟨g, 0, none⟩), .int .i64 d] w fun e w' => e = stopE q ∧ Fr (fun k => k = g) w w' := by
  have hle : len ≤ 1000 := numS_le hm
  replace hcall := Lib.hid hcall
  obtain ⟨kd, hkd⟩ : ∃ kd, kd = kindR c := ⟨_, rfl⟩
  rw [← hkd] at hk hn
  have hlen := line_len hl
  have hts : (⟨t.toArray⟩ : ByteArray).size ≤ 1000000 := by
    rw [size_r]; show t.length ≤ _; omega
  have htl : ((⟨t.toArray⟩ : ByteArray).toList == [45, 49]) = decide (t = [45, 49]) := by
    rw [ByteArray.toList_eq]
    show (t == [45, 49]) = _
    rw [Bool.eq_iff_iff, beq_iff_eq, decide_eq_true_eq]
  replace hl := Lib.hid hl
  have hlt : at_ < n := by
    rcases Nat.lt_or_ge at_ n with hh | hh
    · exact hh
    · rw [List.drop_of_length_le (by rw [← size_r, h.scan.size]; exact hh)] at hL; cases hL
  have hai : ¬ (n : Int) ≤ (at_ : Int) := by omega
  have hai2 : (at_ : Int) < (n : Int) := by omega
  have hbig := h.scan.big
  obtain ⟨hcel, hL2⟩ : w.cell? ⟨b, o + at_, none⟩ = some (.int .u8 (c.toNat : Int)) ∧ s.data.toList.drop (at_ + 1) = L := by
    have hz := h.scan.size
    have h1 := h.scan.bytes at_ (by omega)
    have e1 := Lib.data_getElem? s at_ (by omega)
    have e2 : s.data.toList[at_]? = some c := by
      have := congrArg (·[0]?) hL
      simp only [List.getElem?_drop, Nat.add_zero] at this
      exact this
    rw [e1] at e2
    rw [h1, Option.some.inj e2]
    refine ⟨rfl, ?_⟩
    rw [← List.drop_drop, hL]; rfl
  have hcb := World.block_lt_of_cell? _ _ hcel
  replace hcb : b < w.heap.size := hcb
  replace hL := Lib.hid hL
  replace hL2 := Lib.hid hL2
  replace hcel := Lib.hid hcel
  obtain ⟨W1, hW1⟩ : ∃ W1, W1 = w.alloc (.cells #[.int .i64 0, .string ⟨#[]⟩, .int .i64 0, .float .f64 0, .bool false, .slice none 0 0] 26) := ⟨_, rfl⟩
  have hb1 : Below w.heap.size w W1 := by rw [hW1]; exact (Below.refl _ _).alloc (Nat.le_refl _) _
  have h1 := h.grow hb1
  have hz1 : W1.rangeAt w.heap.size 0 [.int .i64 0, .string ⟨#[]⟩, .int .i64 0, .float .f64 0, .bool false, .slice none 0 0] := by
    rw [hW1]; intro q x hq; rw [Nat.zero_add, World.cell?_alloc_new]; simpa using hq
  have hk1 : Blk W1 w.heap.size := by rw [hW1]; exact Blk.new _ _ _
  have c0 := h1.scan.c0
  have c1 := h1.scan.c1
  have hgl : g < W1.heap.size := h1.scan.blk.lt
  have hgw : g < w.heap.size := h.scan.blk.lt
  replace hW1 := Lib.hid hW1
  replace hb1 := Lib.hid hb1
  replace h1 := Lib.hid h1
  replace hz1 := Lib.hid hz1
  replace hk1 := Lib.hid hk1
  replace h := Lib.hid h
  go_enter Tryz.func46, Tryz.ntmps46
  go_wp2_with fail
  rw [← hW1.out]
  refine wp_region_grow (by kernel_rfl) (by kernel_rfl) ?_
  repeat (go_big_quiet_step ((fail)))
  refine wpQuiet_nil ?_
  rintro _ ⟨xq, rfl⟩
  have hS := grow_below W1 xq
  obtain ⟨W2, hW2⟩ : ∃ W2, W2 = grow W1 xq := ⟨_, rfl⟩
  rw [← hW2] at hS ⊢
  replace hW2 := Lib.hid hW2
  have h2 := h1.out.grow hS
  have hb2 : Below w.heap.size w W2 := hb1.out.trans (hS.mono hb1.out.size)
  have hz2 : W2.rangeAt w.heap.size 0 [.int .i64 0, .string ⟨#[]⟩, .int .i64 0, .float .f64 0, .bool false, .slice none 0 0] := fun q x hq => by rw [hS.cell (World.block_lt_of_cell? _ _ (hz1.out q x hq))]; exact hz1.out q x hq
  have hk2 : Blk W2 w.heap.size := hk1.out.of_block (hS.block _ hk1.out.lt)
  clear c0 c1 hS
  replace h2 := Lib.hid h2
  replace hb2 := Lib.hid hb2
  replace hz2 := Lib.hid hz2
  replace hk2 := Lib.hid hk2
  have c0 := h2.out.scan.c0
  have c1 := h2.out.scan.c1
  have cc := (hb2.out.cell (p := ⟨b, o + at_, none⟩) hcb).trans hcel.out
  have hgl2 : g < W2.heap.size := h2.out.scan.blk.lt
  have hbl2 : b < W2.heap.size := Nat.lt_of_lt_of_le hcb hb2.out.size
  go_wp2_with fail
  refine wp_region_grow (by kernel_rfl) (by kernel_rfl) ?_
  repeat (go_big_quiet_step ((go_at_call 63; (with_reducible exact quiet_grow (kinds_grow _ _)))))
  refine wpQuiet_nil ?_
  rintro _ ⟨xq, rfl⟩
  have hS := grow_below W2 xq
  obtain ⟨W3, hW3⟩ : ∃ W3, W3 = grow W2 xq := ⟨_, rfl⟩
  rw [← hW3] at hS ⊢
  replace hW3 := Lib.hid hW3
  have h3 := h2.out.grow hS
  have hb3 : Below w.heap.size w W3 := hb2.out.trans (hS.mono hb2.out.size)
  have hz3 : W3.rangeAt w.heap.size 0 [.int .i64 0, .string ⟨#[]⟩, .int .i64 0, .float .f64 0, .bool false, .slice none 0 0] := fun q x hq => by rw [hS.cell (World.block_lt_of_cell? _ _ (hz2.out q x hq))]; exact hz2.out q x hq
  have hk3 : Blk W3 w.heap.size := hk2.out.of_block (hS.block _ hk2.out.lt)
  clear c0 c1 hS cc
  replace h3 := Lib.hid h3
  replace hb3 := Lib.hid hb3
  replace hz3 := Lib.hid hz3
  replace hk3 := Lib.hid hk3
  rw [← hkd]
  have hk0 : ((kd : Int) == 0) = false := by simp; omega
  replace hkd := Lib.hid hkd
  have c1 := h3.out.scan.c1
  have fz := h3.out.scan.blk.frz 1 none
  go_wp2_with fail
  have e4 : (at_ : Int) + 1 = ((at_ + 1 : Nat) : Int) := by omega
  rw [e4]
  have hf4 : Fr (fun k => k = g) w (W3.setCell ⟨g, 1, none⟩ (.int .i64 ((at_ + 1 : Nat) : Int))) := Fr.setCell (S := fun k => k = g) (fr_of_below hb3.out) (fun _ => rfl) _
  have h4 : RS rp w0 (W3.setCell ⟨g, 1, none⟩ (.int .i64 ((at_ + 1 : Nat) : Int))) g b o n cap s (at_ + 1) many := h3.out.next (Fr.setCell (S := fun k => k = g) (Fr.refl _ _) (fun _ => rfl) _) (h3.out.scan.move _) (by omega)
  have hz4 : (W3.setCell ⟨g, 1, none⟩ (.int .i64 ((at_ + 1 : Nat) : Int))).rangeAt w.heap.size 0 [.int .i64 0, .string ⟨#[]⟩, .int .i64 0, .float .f64 0, .bool false, .slice none 0 0] := fun q x hq => by
    rw [cell_set_ne (fun e => by have := congrArg Addr.block e; simp at this; omega)]; exact hz3.out q x hq
  have hk4 : Blk (W3.setCell ⟨g, 1, none⟩ (.int .i64 ((at_ + 1 : Nat) : Int))) w.heap.size := hk3.out.setCell _ _
  generalize W3.setCell ⟨g, 1, none⟩ (.int .i64 ((at_ + 1 : Nat) : Int)) = W4 at *
  clear c1 fz e4
  replace h4 := Lib.hid h4
  replace hf4 := Lib.hid hf4
  replace hz4 := Lib.hid hz4
  replace hk4 := Lib.hid hk4
  refine (line_got h4.out.scan h4.out.le (by rw [hL2.out]; exact hl.out)).mono ?_
  rintro e W6 ⟨rfl, hf6, hs6, hle6⟩
  have h6 := h4.out.next hf6 hs6 hle6
  have hf06 := hf4.out.trans hf6
  have hne6 : ¬ w.heap.size = g := by omega
  have hz6 : W6.rangeAt w.heap.size 0 [.int .i64 0, .string ⟨#[]⟩, .int .i64 0, .float .f64 0, .bool false, .slice none 0 0] := fun q x hq => hf6.cell (hz4.out q x hq) hne6
  have hk6 : Blk W6 w.heap.size := hk4.out.fr hf6 hne6
  clear hf6 hs6 hle6
  replace h6 := Lib.hid h6
  replace hf06 := Lib.hid hf06
  replace hz6 := Lib.hid hz6
  replace hk6 := Lib.hid hk6
  rw [← hkd.out] at hcall
  have hno6 := number_got (w := W6) (t := ⟨t.toArray⟩) (most := 1000) hts (by omega) h6.out.nums hm
  replace hno6 := Lib.hid hno6
  clear hm hlen hts
  generalize (⟨t.toArray⟩ : ByteArray) = T at *
  by_cases ht : t = [45, 49]
  · rw [decide_eq_true ht] at htl
    rcases hk with ⟨rfl, rfl⟩ | ⟨rfl, rfl⟩ | ⟨rfl, rfl⟩ | ⟨rfl, rfl⟩
    · exact absurd ⟨ht, .inr rfl⟩ hn
    · clear hn
      go_wp2_with fail
      refine hno6.out.mono ?_
      rintro e W7 ⟨rfl, hb⟩
      have h7 := h6.out.grow hb
      have hf7 := hf06.out.trans (fr_of_below (g := g) hb)
      have hz7 : W7.rangeAt w.heap.size 0 [.int .i64 0, .string ⟨#[]⟩, .int .i64 0, .float .f64 0, .bool false, .slice none 0 0] := fun q x hq => by rw [(hb).cell (World.block_lt_of_cell? _ _ (hz6.out q x hq))]; exact hz6.out q x hq
      have hk7 : Blk W7 w.heap.size := hk6.out.of_block ((hb).block _ hk6.out.lt)
      replace h7 := Lib.hid h7
      replace hf7 := Lib.hid hf7
      replace hz7 := Lib.hid hz7
      replace hk7 := Lib.hid hk7
      clear hb
      go_wp2_with fail
      refine (hcall.out W7 h7.out).mono ?_
      rintro e w' ⟨rfl, hb2⟩
      exact ⟨rfl, rfl, hf7.out.trans hb2⟩
    · clear hn
      go_wp2_with fail
      refine hno6.out.mono ?_
      rintro e W7 ⟨rfl, hb⟩
      have h7 := h6.out.grow hb
      have hf7 := hf06.out.trans (fr_of_below (g := g) hb)
      have hz7 : W7.rangeAt w.heap.size 0 [.int .i64 0, .string ⟨#[]⟩, .int .i64 0, .float .f64 0, .bool false, .slice none 0 0] := fun q x hq => by rw [(hb).cell (World.block_lt_of_cell? _ _ (hz6.out q x hq))]; exact hz6.out q x hq
      have hk7 : Blk W7 w.heap.size := hk6.out.of_block ((hb).block _ hk6.out.lt)
      replace h7 := Lib.hid h7
      replace hf7 := Lib.hid hf7
      replace hz7 := Lib.hid hz7
      replace hk7 := Lib.hid hk7
      clear hb
      go_wp2_with fail
      refine (hcall.out W7 h7.out).mono ?_
      rintro e w' ⟨rfl, hb2⟩
      exact ⟨rfl, rfl, hf7.out.trans hb2⟩
    · clear hn
      go_wp2_with fail
      refine hno6.out.mono ?_
      rintro e W7 ⟨rfl, hb⟩
      have h7 := h6.out.grow hb
      have hf7 := hf06.out.trans (fr_of_below (g := g) hb)
      have hz7 : W7.rangeAt w.heap.size 0 [.int .i64 0, .string ⟨#[]⟩, .int .i64 0, .float .f64 0, .bool false, .slice none 0 0] := fun q x hq => by rw [(hb).cell (World.block_lt_of_cell? _ _ (hz6.out q x hq))]; exact hz6.out q x hq
      have hk7 : Blk W7 w.heap.size := hk6.out.of_block ((hb).block _ hk6.out.lt)
      replace h7 := Lib.hid h7
      replace hf7 := Lib.hid hf7
      replace hz7 := Lib.hid hz7
      replace hk7 := Lib.hid hk7
      clear hb
      go_wp2_with fail
      have e12 : (2 : Int) * (len : Int) = ((2 * len : Nat) : Int) := by omega
      try rw [e12]
      clear e12
      refine (hcall.out W7 h7.out).mono ?_
      rintro e w' ⟨rfl, hb2⟩
      exact ⟨rfl, rfl, hf7.out.trans hb2⟩
  · rw [decide_eq_false ht] at htl
    replace ht := Lib.hid ht
    rcases hk with ⟨rfl, rfl⟩ | ⟨rfl, rfl⟩ | ⟨rfl, rfl⟩ | ⟨rfl, rfl⟩
    · clear hn
      go_wp2_with fail
      refine hno6.out.mono ?_
      rintro e W7 ⟨rfl, hb⟩
      have h7 := h6.out.grow hb
      have hf7 := hf06.out.trans (fr_of_below (g := g) hb)
      have hz7 : W7.rangeAt w.heap.size 0 [.int .i64 0, .string ⟨#[]⟩, .int .i64 0, .float .f64 0, .bool false, .slice none 0 0] := fun q x hq => by rw [(hb).cell (World.block_lt_of_cell? _ _ (hz6.out q x hq))]; exact hz6.out q x hq
      have hk7 : Blk W7 w.heap.size := hk6.out.of_block ((hb).block _ hk6.out.lt)
      replace h7 := Lib.hid h7
      replace hf7 := Lib.hid hf7
      replace hz7 := Lib.hid hz7
      replace hk7 := Lib.hid hk7
      clear hb
      go_wp2_with fail
      refine (hcall.out W7 h7.out).mono ?_
      rintro e w' ⟨rfl, hb2⟩
      exact ⟨rfl, rfl, hf7.out.trans hb2⟩
    · clear hn
      go_wp2_with fail
      refine hno6.out.mono ?_
      rintro e W7 ⟨rfl, hb⟩
      have h7 := h6.out.grow hb
      have hf7 := hf06.out.trans (fr_of_below (g := g) hb)
      have hz7 : W7.rangeAt w.heap.size 0 [.int .i64 0, .string ⟨#[]⟩, .int .i64 0, .float .f64 0, .bool false, .slice none 0 0] := fun q x hq => by rw [(hb).cell (World.block_lt_of_cell? _ _ (hz6.out q x hq))]; exact hz6.out q x hq
      have hk7 : Blk W7 w.heap.size := hk6.out.of_block ((hb).block _ hk6.out.lt)
      replace h7 := Lib.hid h7
      replace hf7 := Lib.hid hf7
      replace hz7 := Lib.hid hz7
      replace hk7 := Lib.hid hk7
      clear hb
      go_wp2_with fail
      refine (hcall.out W7 h7.out).mono ?_
      rintro e w' ⟨rfl, hb2⟩
      exact ⟨rfl, rfl, hf7.out.trans hb2⟩
    · clear hn
      go_wp2_with fail
      refine hno6.out.mono ?_
      rintro e W7 ⟨rfl, hb⟩
      have h7 := h6.out.grow hb
      have hf7 := hf06.out.trans (fr_of_below (g := g) hb)
      have hz7 : W7.rangeAt w.heap.size 0 [.int .i64 0, .string ⟨#[]⟩, .int .i64 0, .float .f64 0, .bool false, .slice none 0 0] := fun q x hq => by rw [(hb).cell (World.block_lt_of_cell? _ _ (hz6.out q x hq))]; exact hz6.out q x hq
      have hk7 : Blk W7 w.heap.size := hk6.out.of_block ((hb).block _ hk6.out.lt)
      replace h7 := Lib.hid h7
      replace hf7 := Lib.hid hf7
      replace hz7 := Lib.hid hz7
      replace hk7 := Lib.hid hk7
      clear hb
      go_wp2_with fail
      refine (hcall.out W7 h7.out).mono ?_
      rintro e w' ⟨rfl, hb2⟩
      exact ⟨rfl, rfl, hf7.out.trans hb2⟩
    · clear hn
      go_wp2_with fail
      refine hno6.out.mono ?_
      rintro e W7 ⟨rfl, hb⟩
      have h7 := h6.out.grow hb
      have hf7 := hf06.out.trans (fr_of_below (g := g) hb)
      have hz7 : W7.rangeAt w.heap.size 0 [.int .i64 0, .string ⟨#[]⟩, .int .i64 0, .float .f64 0, .bool false, .slice none 0 0] := fun q x hq => by rw [(hb).cell (World.block_lt_of_cell? _ _ (hz6.out q x hq))]; exact hz6.out q x hq
      have hk7 : Blk W7 w.heap.size := hk6.out.of_block ((hb).block _ hk6.out.lt)
      replace h7 := Lib.hid h7
      replace hf7 := Lib.hid hf7
      replace hz7 := Lib.hid hz7
      replace hk7 := Lib.hid hk7
      clear hb
      go_wp2_with fail
      have e12 : (2 : Int) * (len : Int) = ((2 * len : Nat) : Int) := by omega
      try rw [e12]
      clear e12
      refine (hcall.out W7 h7.out).mono ?_
      rintro e w' ⟨rfl, hb2⟩
      exact ⟨rfl, rfl, hf7.out.trans hb2⟩
set_option maxRecDepth 100000 in
set_option maxHeartbeats 6400000 in
theorem value_listgot {rp : Rp} {w0 w : World} {g b o n cap at_ many u u2 m2 len N : Nat} {s : ByteArray} {d : Int} {c : UInt8} {t L : List UInt8} {l : List V} (h : RS rp w0 w g b o n cap s at_ many) (hL : s.data.toList.drop at_ = c :: L)
    (hk : (kindR c = 5 ∧ N = len) ∨ (kindR c = 13 ∧ N = len) ∨ (kindR c = 14 ∧ N = len) ∨ (kindR c = 12 ∧ N = 2 * len)) (hl : lineS L = .got (t, u)) (hn : ¬ (t = [45, 49] ∧ (kindR c = 4 ∨ kindR c = 5))) (hm : numS t 1000 = some len)
    (hbw : b < w.heap.size)
    (hcall : ∀ W, RS rp w0 W g b o n cap s (at_ + 1 + u) many → Calls Tryz.prog 70 #[.pointer (some ⟨g, 0, none⟩), .int .i64 (kindR c : Int), .int .i64 (N : Int), .int .i64 d] W (ListQ rp w0 g b o n cap s (kindR c : Int) (at_ + 1 + u) (.got (l, u2, m2)) W)) :
    Calls Tryz.prog 46 #[.pointer (some ⟨g, 0, none⟩), .int .i64 d] w (ValQ rp w0 g b o n cap s at_ (.got (.mk (kindR c : Int) ⟨#[]⟩ 0 0 false l, 1 + u + u2, m2)) w) := by
  have hle : len ≤ 1000 := numS_le hm
  replace hcall := Lib.hid hcall
  obtain ⟨kd, hkd⟩ : ∃ kd, kd = kindR c := ⟨_, rfl⟩
  rw [← hkd] at hk hn
  have hlen := line_len hl
  have hts : (⟨t.toArray⟩ : ByteArray).size ≤ 1000000 := by
    rw [size_r]; show t.length ≤ _; omega
  have htl : ((⟨t.toArray⟩ : ByteArray).toList == [45, 49]) = decide (t = [45, 49]) := by
    rw [ByteArray.toList_eq]
    show (t == [45, 49]) = _
    rw [Bool.eq_iff_iff, beq_iff_eq, decide_eq_true_eq]
  replace hl := Lib.hid hl
  have hlt : at_ < n := by
    rcases Nat.lt_or_ge at_ n with hh | hh
    · exact hh
    · rw [List.drop_of_length_le (by rw [← size_r, h.scan.size]; exact hh)] at hL; cases hL
  have hai : ¬ (n : Int) ≤ (at_ : Int) := by omega
  have hai2 : (at_ : Int) < (n : Int) := by omega
  have hbig := h.scan.big
  obtain ⟨hcel, hL2⟩ : w.cell? ⟨b, o + at_, none⟩ = some (.int .u8 (c.toNat : Int)) ∧ s.data.toList.drop (at_ + 1) = L := by
    have hz := h.scan.size
    have h1 := h.scan.bytes at_ (by omega)
    have e1 := Lib.data_getElem? s at_ (by omega)
    have e2 : s.data.toList[at_]? = some c := by
      have := congrArg (·[0]?) hL
      simp only [List.getElem?_drop, Nat.add_zero] at this
      exact this
    rw [e1] at e2
    rw [h1, Option.some.inj e2]
    refine ⟨rfl, ?_⟩
    rw [← List.drop_drop, hL]; rfl
  have hcb := World.block_lt_of_cell? _ _ hcel
  replace hcb : b < w.heap.size := hcb
  replace hL := Lib.hid hL
  replace hL2 := Lib.hid hL2
  replace hcel := Lib.hid hcel
  obtain ⟨W1, hW1⟩ : ∃ W1, W1 = w.alloc (.cells #[.int .i64 0, .string ⟨#[]⟩, .int .i64 0, .float .f64 0, .bool false, .slice none 0 0] 26) := ⟨_, rfl⟩
  have hb1 : Below w.heap.size w W1 := by rw [hW1]; exact (Below.refl _ _).alloc (Nat.le_refl _) _
  have h1 := h.grow hb1
  have hz1 : W1.rangeAt w.heap.size 0 [.int .i64 0, .string ⟨#[]⟩, .int .i64 0, .float .f64 0, .bool false, .slice none 0 0] := by
    rw [hW1]; intro q x hq; rw [Nat.zero_add, World.cell?_alloc_new]; simpa using hq
  have hk1 : Blk W1 w.heap.size := by rw [hW1]; exact Blk.new _ _ _
  have c0 := h1.scan.c0
  have c1 := h1.scan.c1
  have hgl : g < W1.heap.size := h1.scan.blk.lt
  have hgw : g < w.heap.size := h.scan.blk.lt
  replace hW1 := Lib.hid hW1
  replace hb1 := Lib.hid hb1
  replace h1 := Lib.hid h1
  replace hz1 := Lib.hid hz1
  replace hk1 := Lib.hid hk1
  replace h := Lib.hid h
  go_enter Tryz.func46, Tryz.ntmps46
  go_wp2_with fail
  rw [← hW1.out]
  refine wp_region_grow (by kernel_rfl) (by kernel_rfl) ?_
  repeat (go_big_quiet_step ((fail)))
  refine wpQuiet_nil ?_
  rintro _ ⟨xq, rfl⟩
  have hS := grow_below W1 xq
  obtain ⟨W2, hW2⟩ : ∃ W2, W2 = grow W1 xq := ⟨_, rfl⟩
  rw [← hW2] at hS ⊢
  replace hW2 := Lib.hid hW2
  have h2 := h1.out.grow hS
  have hb2 : Below w.heap.size w W2 := hb1.out.trans (hS.mono hb1.out.size)
  have hz2 : W2.rangeAt w.heap.size 0 [.int .i64 0, .string ⟨#[]⟩, .int .i64 0, .float .f64 0, .bool false, .slice none 0 0] := fun q x hq => by rw [hS.cell (World.block_lt_of_cell? _ _ (hz1.out q x hq))]; exact hz1.out q x hq
  have hk2 : Blk W2 w.heap.size := hk1.out.of_block (hS.block _ hk1.out.lt)
  clear c0 c1 hS
  replace h2 := Lib.hid h2
  replace hb2 := Lib.hid hb2
  replace hz2 := Lib.hid hz2
  replace hk2 := Lib.hid hk2
  have c0 := h2.out.scan.c0
  have c1 := h2.out.scan.c1
  have cc := (hb2.out.cell (p := ⟨b, o + at_, none⟩) hcb).trans hcel.out
  have hgl2 : g < W2.heap.size := h2.out.scan.blk.lt
  have hbl2 : b < W2.heap.size := Nat.lt_of_lt_of_le hcb hb2.out.size
  go_wp2_with fail
  refine wp_region_grow (by kernel_rfl) (by kernel_rfl) ?_
  repeat (go_big_quiet_step ((go_at_call 63; (with_reducible exact quiet_grow (kinds_grow _ _)))))
  refine wpQuiet_nil ?_
  rintro _ ⟨xq, rfl⟩
  have hS := grow_below W2 xq
  obtain ⟨W3, hW3⟩ : ∃ W3, W3 = grow W2 xq := ⟨_, rfl⟩
  rw [← hW3] at hS ⊢
  replace hW3 := Lib.hid hW3
  have h3 := h2.out.grow hS
  have hb3 : Below w.heap.size w W3 := hb2.out.trans (hS.mono hb2.out.size)
  have hz3 : W3.rangeAt w.heap.size 0 [.int .i64 0, .string ⟨#[]⟩, .int .i64 0, .float .f64 0, .bool false, .slice none 0 0] := fun q x hq => by rw [hS.cell (World.block_lt_of_cell? _ _ (hz2.out q x hq))]; exact hz2.out q x hq
  have hk3 : Blk W3 w.heap.size := hk2.out.of_block (hS.block _ hk2.out.lt)
  clear c0 c1 hS cc
  replace h3 := Lib.hid h3
  replace hb3 := Lib.hid hb3
  replace hz3 := Lib.hid hz3
  replace hk3 := Lib.hid hk3
  rw [← hkd]
  have hk0 : ((kd : Int) == 0) = false := by simp; omega
  replace hkd := Lib.hid hkd
  have c1 := h3.out.scan.c1
  have fz := h3.out.scan.blk.frz 1 none
  go_wp2_with fail
  have e4 : (at_ : Int) + 1 = ((at_ + 1 : Nat) : Int) := by omega
  rw [e4]
  have hf4 : Fr (fun k => k = g) w (W3.setCell ⟨g, 1, none⟩ (.int .i64 ((at_ + 1 : Nat) : Int))) := Fr.setCell (S := fun k => k = g) (fr_of_below hb3.out) (fun _ => rfl) _
  have h4 : RS rp w0 (W3.setCell ⟨g, 1, none⟩ (.int .i64 ((at_ + 1 : Nat) : Int))) g b o n cap s (at_ + 1) many := h3.out.next (Fr.setCell (S := fun k => k = g) (Fr.refl _ _) (fun _ => rfl) _) (h3.out.scan.move _) (by omega)
  have hz4 : (W3.setCell ⟨g, 1, none⟩ (.int .i64 ((at_ + 1 : Nat) : Int))).rangeAt w.heap.size 0 [.int .i64 0, .string ⟨#[]⟩, .int .i64 0, .float .f64 0, .bool false, .slice none 0 0] := fun q x hq => by
    rw [cell_set_ne (fun e => by have := congrArg Addr.block e; simp at this; omega)]; exact hz3.out q x hq
  have hk4 : Blk (W3.setCell ⟨g, 1, none⟩ (.int .i64 ((at_ + 1 : Nat) : Int))) w.heap.size := hk3.out.setCell _ _
  generalize W3.setCell ⟨g, 1, none⟩ (.int .i64 ((at_ + 1 : Nat) : Int)) = W4 at *
  clear c1 fz e4
  replace h4 := Lib.hid h4
  replace hf4 := Lib.hid hf4
  replace hz4 := Lib.hid hz4
  replace hk4 := Lib.hid hk4
  refine (line_got h4.out.scan h4.out.le (by rw [hL2.out]; exact hl.out)).mono ?_
  rintro e W6 ⟨rfl, hf6, hs6, hle6⟩
  have h6 := h4.out.next hf6 hs6 hle6
  have hf06 := hf4.out.trans hf6
  have hne6 : ¬ w.heap.size = g := by omega
  have hz6 : W6.rangeAt w.heap.size 0 [.int .i64 0, .string ⟨#[]⟩, .int .i64 0, .float .f64 0, .bool false, .slice none 0 0] := fun q x hq => hf6.cell (hz4.out q x hq) hne6
  have hk6 : Blk W6 w.heap.size := hk4.out.fr hf6 hne6
  clear hf6 hs6 hle6
  replace h6 := Lib.hid h6
  replace hf06 := Lib.hid hf06
  replace hz6 := Lib.hid hz6
  replace hk6 := Lib.hid hk6
  rw [← hkd.out] at hcall
  have hno6 := number_got (w := W6) (t := ⟨t.toArray⟩) (most := 1000) hts (by omega) h6.out.nums hm
  replace hno6 := Lib.hid hno6
  clear hm hlen hts
  generalize (⟨t.toArray⟩ : ByteArray) = T at *
  by_cases ht : t = [45, 49]
  · rw [decide_eq_true ht] at htl
    rcases hk with ⟨rfl, rfl⟩ | ⟨rfl, rfl⟩ | ⟨rfl, rfl⟩ | ⟨rfl, rfl⟩
    · exact absurd ⟨ht, .inr rfl⟩ hn
    · clear hn
      go_wp2_with fail
      refine hno6.out.mono ?_
      rintro e W7 ⟨rfl, hb⟩
      have h7 := h6.out.grow hb
      have hf7 := hf06.out.trans (fr_of_below (g := g) hb)
      have hz7 : W7.rangeAt w.heap.size 0 [.int .i64 0, .string ⟨#[]⟩, .int .i64 0, .float .f64 0, .bool false, .slice none 0 0] := fun q x hq => by rw [(hb).cell (World.block_lt_of_cell? _ _ (hz6.out q x hq))]; exact hz6.out q x hq
      have hk7 : Blk W7 w.heap.size := hk6.out.of_block ((hb).block _ hk6.out.lt)
      replace h7 := Lib.hid h7
      replace hf7 := Lib.hid hf7
      replace hz7 := Lib.hid hz7
      replace hk7 := Lib.hid hk7
      clear hb
      go_wp2_with fail
      refine (hcall.out W7 h7.out).mono ?_
      rintro e W8 ⟨ad1, ca1, rfl, hrv8, hf8, h8⟩
      have hf08 := hf7.out.trans hf8
      have hne6 : ¬ w.heap.size = g := by omega
      have hz8 : W8.rangeAt w.heap.size 0 [.int .i64 0, .string ⟨#[]⟩, .int .i64 0, .float .f64 0, .bool false, .slice none 0 0] := fun q x hq => hf8.cell (hz7.out q x hq) hne6
      have hk8 : Blk W8 w.heap.size := hk7.out.fr hf8 hne6
      have hlt7 := hk7.out.lt
      clear hf8
      have htC := there_of (n := 6) hz8 hk8 rfl
      have hrR : (W8.setCells w.heap.size 0 [.int .i64 13, .string ⟨#[]⟩, .int .i64 0, .float .f64 0, .bool false, .slice ad1 l.length ca1]).rangeAt w.heap.size 0 [.int .i64 13, .string ⟨#[]⟩, .int .i64 0, .float .f64 0, .bool false, .slice ad1 l.length ca1] := World.rangeAt_setCells_same _ _ _ _ htC
      have hfw : Fr (fun k => k = w.heap.size) W8 (W8.setCells w.heap.size 0 [.int .i64 13, .string ⟨#[]⟩, .int .i64 0, .float .f64 0, .bool false, .slice ad1 l.length ca1]) := Fr.setCells (S := fun k => k = w.heap.size) (fun _ => rfl) _ _ _ (Fr.refl _ _)
      have hff := hf08.trans_new hfw (fun i hi e => by omega)
      have hrs : RS rp w0 (W8.setCells w.heap.size 0 [.int .i64 13, .string ⟨#[]⟩, .int .i64 0, .float .f64 0, .bool false, .slice ad1 l.length ca1]) g b o n cap s _ m2 := h8.fr hfw (by omega) (by omega) (fun i e => by have := h.out.base; omega)
      have hrv9 := hrv8.mono (newer_fr hfw hlt7)
      replace htC := Lib.hid htC
      replace hrR := Lib.hid hrR
      replace hff := Lib.hid hff
      replace hrs := Lib.hid hrs
      replace hrv9 := Lib.hid hrv9
      clear hfw hrv8 h8 hf08 hz8 hk8
      go_wp2_with (refine wpList_store_mid rfl 26 _ _ rfl w.heap.size 0 _ rfl rfl htC.out infoVal (one6 _ _ _ _ _ _ _ _) ?_)
      refine bodyPost_ret (results_cell1 (v := .agg #[.int .i64 13, .string ⟨#[]⟩, .int .i64 0, .float .f64 0, .bool false, .slice ad1 l.length ca1]) rfl rfl (run_loadVar_mid (P := Tryz.prog) _ _ 0 26 _ _ hrR.out Tryz.underlying26 rfl infoVal)) rfl ?_
      rw [← hkd.out]
      exact ⟨ad1, ca1, rfl, hrv9.out, hff.out, by rw [show at_ + (1 + u + u2) = at_ + 1 + u + u2 by omega]; exact hrs.out⟩
    · clear hn
      go_wp2_with fail
      refine hno6.out.mono ?_
      rintro e W7 ⟨rfl, hb⟩
      have h7 := h6.out.grow hb
      have hf7 := hf06.out.trans (fr_of_below (g := g) hb)
      have hz7 : W7.rangeAt w.heap.size 0 [.int .i64 0, .string ⟨#[]⟩, .int .i64 0, .float .f64 0, .bool false, .slice none 0 0] := fun q x hq => by rw [(hb).cell (World.block_lt_of_cell? _ _ (hz6.out q x hq))]; exact hz6.out q x hq
      have hk7 : Blk W7 w.heap.size := hk6.out.of_block ((hb).block _ hk6.out.lt)
      replace h7 := Lib.hid h7
      replace hf7 := Lib.hid hf7
      replace hz7 := Lib.hid hz7
      replace hk7 := Lib.hid hk7
      clear hb
      go_wp2_with fail
      refine (hcall.out W7 h7.out).mono ?_
      rintro e W8 ⟨ad1, ca1, rfl, hrv8, hf8, h8⟩
      have hf08 := hf7.out.trans hf8
      have hne6 : ¬ w.heap.size = g := by omega
      have hz8 : W8.rangeAt w.heap.size 0 [.int .i64 0, .string ⟨#[]⟩, .int .i64 0, .float .f64 0, .bool false, .slice none 0 0] := fun q x hq => hf8.cell (hz7.out q x hq) hne6
      have hk8 : Blk W8 w.heap.size := hk7.out.fr hf8 hne6
      have hlt7 := hk7.out.lt
      clear hf8
      have htC := there_of (n := 6) hz8 hk8 rfl
      have hrR : (W8.setCells w.heap.size 0 [.int .i64 14, .string ⟨#[]⟩, .int .i64 0, .float .f64 0, .bool false, .slice ad1 l.length ca1]).rangeAt w.heap.size 0 [.int .i64 14, .string ⟨#[]⟩, .int .i64 0, .float .f64 0, .bool false, .slice ad1 l.length ca1] := World.rangeAt_setCells_same _ _ _ _ htC
      have hfw : Fr (fun k => k = w.heap.size) W8 (W8.setCells w.heap.size 0 [.int .i64 14, .string ⟨#[]⟩, .int .i64 0, .float .f64 0, .bool false, .slice ad1 l.length ca1]) := Fr.setCells (S := fun k => k = w.heap.size) (fun _ => rfl) _ _ _ (Fr.refl _ _)
      have hff := hf08.trans_new hfw (fun i hi e => by omega)
      have hrs : RS rp w0 (W8.setCells w.heap.size 0 [.int .i64 14, .string ⟨#[]⟩, .int .i64 0, .float .f64 0, .bool false, .slice ad1 l.length ca1]) g b o n cap s _ m2 := h8.fr hfw (by omega) (by omega) (fun i e => by have := h.out.base; omega)
      have hrv9 := hrv8.mono (newer_fr hfw hlt7)
      replace htC := Lib.hid htC
      replace hrR := Lib.hid hrR
      replace hff := Lib.hid hff
      replace hrs := Lib.hid hrs
      replace hrv9 := Lib.hid hrv9
      clear hfw hrv8 h8 hf08 hz8 hk8
      go_wp2_with (refine wpList_store_mid rfl 26 _ _ rfl w.heap.size 0 _ rfl rfl htC.out infoVal (one6 _ _ _ _ _ _ _ _) ?_)
      refine bodyPost_ret (results_cell1 (v := .agg #[.int .i64 14, .string ⟨#[]⟩, .int .i64 0, .float .f64 0, .bool false, .slice ad1 l.length ca1]) rfl rfl (run_loadVar_mid (P := Tryz.prog) _ _ 0 26 _ _ hrR.out Tryz.underlying26 rfl infoVal)) rfl ?_
      rw [← hkd.out]
      exact ⟨ad1, ca1, rfl, hrv9.out, hff.out, by rw [show at_ + (1 + u + u2) = at_ + 1 + u + u2 by omega]; exact hrs.out⟩
    · clear hn
      go_wp2_with fail
      refine hno6.out.mono ?_
      rintro e W7 ⟨rfl, hb⟩
      have h7 := h6.out.grow hb
      have hf7 := hf06.out.trans (fr_of_below (g := g) hb)
      have hz7 : W7.rangeAt w.heap.size 0 [.int .i64 0, .string ⟨#[]⟩, .int .i64 0, .float .f64 0, .bool false, .slice none 0 0] := fun q x hq => by rw [(hb).cell (World.block_lt_of_cell? _ _ (hz6.out q x hq))]; exact hz6.out q x hq
      have hk7 : Blk W7 w.heap.size := hk6.out.of_block ((hb).block _ hk6.out.lt)
      replace h7 := Lib.hid h7
      replace hf7 := Lib.hid hf7
      replace hz7 := Lib.hid hz7
      replace hk7 := Lib.hid hk7
      clear hb
      go_wp2_with fail
      have e12 : (2 : Int) * (len : Int) = ((2 * len : Nat) : Int) := by omega
      try rw [e12]
      clear e12
      refine (hcall.out W7 h7.out).mono ?_
      rintro e W8 ⟨ad1, ca1, rfl, hrv8, hf8, h8⟩
      have hf08 := hf7.out.trans hf8
      have hne6 : ¬ w.heap.size = g := by omega
      have hz8 : W8.rangeAt w.heap.size 0 [.int .i64 0, .string ⟨#[]⟩, .int .i64 0, .float .f64 0, .bool false, .slice none 0 0] := fun q x hq => hf8.cell (hz7.out q x hq) hne6
      have hk8 : Blk W8 w.heap.size := hk7.out.fr hf8 hne6
      have hlt7 := hk7.out.lt
      clear hf8
      have htC := there_of (n := 6) hz8 hk8 rfl
      have hrR : (W8.setCells w.heap.size 0 [.int .i64 12, .string ⟨#[]⟩, .int .i64 0, .float .f64 0, .bool false, .slice ad1 l.length ca1]).rangeAt w.heap.size 0 [.int .i64 12, .string ⟨#[]⟩, .int .i64 0, .float .f64 0, .bool false, .slice ad1 l.length ca1] := World.rangeAt_setCells_same _ _ _ _ htC
      have hfw : Fr (fun k => k = w.heap.size) W8 (W8.setCells w.heap.size 0 [.int .i64 12, .string ⟨#[]⟩, .int .i64 0, .float .f64 0, .bool false, .slice ad1 l.length ca1]) := Fr.setCells (S := fun k => k = w.heap.size) (fun _ => rfl) _ _ _ (Fr.refl _ _)
      have hff := hf08.trans_new hfw (fun i hi e => by omega)
      have hrs : RS rp w0 (W8.setCells w.heap.size 0 [.int .i64 12, .string ⟨#[]⟩, .int .i64 0, .float .f64 0, .bool false, .slice ad1 l.length ca1]) g b o n cap s _ m2 := h8.fr hfw (by omega) (by omega) (fun i e => by have := h.out.base; omega)
      have hrv9 := hrv8.mono (newer_fr hfw hlt7)
      replace htC := Lib.hid htC
      replace hrR := Lib.hid hrR
      replace hff := Lib.hid hff
      replace hrs := Lib.hid hrs
      replace hrv9 := Lib.hid hrv9
      clear hfw hrv8 h8 hf08 hz8 hk8
      go_wp2_with (refine wpList_store_mid rfl 26 _ _ rfl w.heap.size 0 _ rfl rfl htC.out infoVal (one6 _ _ _ _ _ _ _ _) ?_)
      refine bodyPost_ret (results_cell1 (v := .agg #[.int .i64 12, .string ⟨#[]⟩, .int .i64 0, .float .f64 0, .bool false, .slice ad1 l.length ca1]) rfl rfl (run_loadVar_mid (P := Tryz.prog) _ _ 0 26 _ _ hrR.out Tryz.underlying26 rfl infoVal)) rfl ?_
      rw [← hkd.out]
      exact ⟨ad1, ca1, rfl, hrv9.out, hff.out, by rw [show at_ + (1 + u + u2) = at_ + 1 + u + u2 by omega]; exact hrs.out⟩
  · rw [decide_eq_false ht] at htl
    replace ht := Lib.hid ht
    rcases hk with ⟨rfl, rfl⟩ | ⟨rfl, rfl⟩ | ⟨rfl, rfl⟩ | ⟨rfl, rfl⟩
    · clear hn
      go_wp2_with fail
      refine hno6.out.mono ?_
      rintro e W7 ⟨rfl, hb⟩
      have h7 := h6.out.grow hb
      have hf7 := hf06.out.trans (fr_of_below (g := g) hb)
      have hz7 : W7.rangeAt w.heap.size 0 [.int .i64 0, .string ⟨#[]⟩, .int .i64 0, .float .f64 0, .bool false, .slice none 0 0] := fun q x hq => by rw [(hb).cell (World.block_lt_of_cell? _ _ (hz6.out q x hq))]; exact hz6.out q x hq
      have hk7 : Blk W7 w.heap.size := hk6.out.of_block ((hb).block _ hk6.out.lt)
      replace h7 := Lib.hid h7
      replace hf7 := Lib.hid hf7
      replace hz7 := Lib.hid hz7
      replace hk7 := Lib.hid hk7
      clear hb
      go_wp2_with fail
      refine (hcall.out W7 h7.out).mono ?_
      rintro e W8 ⟨ad1, ca1, rfl, hrv8, hf8, h8⟩
      have hf08 := hf7.out.trans hf8
      have hne6 : ¬ w.heap.size = g := by omega
      have hz8 : W8.rangeAt w.heap.size 0 [.int .i64 0, .string ⟨#[]⟩, .int .i64 0, .float .f64 0, .bool false, .slice none 0 0] := fun q x hq => hf8.cell (hz7.out q x hq) hne6
      have hk8 : Blk W8 w.heap.size := hk7.out.fr hf8 hne6
      have hlt7 := hk7.out.lt
      clear hf8
      have htC := there_of (n := 6) hz8 hk8 rfl
      have hrR : (W8.setCells w.heap.size 0 [.int .i64 5, .string ⟨#[]⟩, .int .i64 0, .float .f64 0, .bool false, .slice ad1 l.length ca1]).rangeAt w.heap.size 0 [.int .i64 5, .string ⟨#[]⟩, .int .i64 0, .float .f64 0, .bool false, .slice ad1 l.length ca1] := World.rangeAt_setCells_same _ _ _ _ htC
      have hfw : Fr (fun k => k = w.heap.size) W8 (W8.setCells w.heap.size 0 [.int .i64 5, .string ⟨#[]⟩, .int .i64 0, .float .f64 0, .bool false, .slice ad1 l.length ca1]) := Fr.setCells (S := fun k => k = w.heap.size) (fun _ => rfl) _ _ _ (Fr.refl _ _)
      have hff := hf08.trans_new hfw (fun i hi e => by omega)
      have hrs : RS rp w0 (W8.setCells w.heap.size 0 [.int .i64 5, .string ⟨#[]⟩, .int .i64 0, .float .f64 0, .bool false, .slice ad1 l.length ca1]) g b o n cap s _ m2 := h8.fr hfw (by omega) (by omega) (fun i e => by have := h.out.base; omega)
      have hrv9 := hrv8.mono (newer_fr hfw hlt7)
      replace htC := Lib.hid htC
      replace hrR := Lib.hid hrR
      replace hff := Lib.hid hff
      replace hrs := Lib.hid hrs
      replace hrv9 := Lib.hid hrv9
      clear hfw hrv8 h8 hf08 hz8 hk8
      go_wp2_with (refine wpList_store_mid rfl 26 _ _ rfl w.heap.size 0 _ rfl rfl htC.out infoVal (one6 _ _ _ _ _ _ _ _) ?_)
      refine bodyPost_ret (results_cell1 (v := .agg #[.int .i64 5, .string ⟨#[]⟩, .int .i64 0, .float .f64 0, .bool false, .slice ad1 l.length ca1]) rfl rfl (run_loadVar_mid (P := Tryz.prog) _ _ 0 26 _ _ hrR.out Tryz.underlying26 rfl infoVal)) rfl ?_
      rw [← hkd.out]
      exact ⟨ad1, ca1, rfl, hrv9.out, hff.out, by rw [show at_ + (1 + u + u2) = at_ + 1 + u + u2 by omega]; exact hrs.out⟩
    · clear hn
      go_wp2_with fail
      refine hno6.out.mono ?_
      rintro e W7 ⟨rfl, hb⟩
      have h7 := h6.out.grow hb
      have hf7 := hf06.out.trans (fr_of_below (g := g) hb)
      have hz7 : W7.rangeAt w.heap.size 0 [.int .i64 0, .string ⟨#[]⟩, .int .i64 0, .float .f64 0, .bool false, .slice none 0 0] := fun q x hq => by rw [(hb).cell (World.block_lt_of_cell? _ _ (hz6.out q x hq))]; exact hz6.out q x hq
      have hk7 : Blk W7 w.heap.size := hk6.out.of_block ((hb).block _ hk6.out.lt)
      replace h7 := Lib.hid h7
      replace hf7 := Lib.hid hf7
      replace hz7 := Lib.hid hz7
      replace hk7 := Lib.hid hk7
      clear hb
      go_wp2_with fail
      refine (hcall.out W7 h7.out).mono ?_
      rintro e W8 ⟨ad1, ca1, rfl, hrv8, hf8, h8⟩
      have hf08 := hf7.out.trans hf8
      have hne6 : ¬ w.heap.size = g := by omega
      have hz8 : W8.rangeAt w.heap.size 0 [.int .i64 0, .string ⟨#[]⟩, .int .i64 0, .float .f64 0, .bool false, .slice none 0 0] := fun q x hq => hf8.cell (hz7.out q x hq) hne6
      have hk8 : Blk W8 w.heap.size := hk7.out.fr hf8 hne6
      have hlt7 := hk7.out.lt
      clear hf8
      have htC := there_of (n := 6) hz8 hk8 rfl
      have hrR : (W8.setCells w.heap.size 0 [.int .i64 13, .string ⟨#[]⟩, .int .i64 0, .float .f64 0, .bool false, .slice ad1 l.length ca1]).rangeAt w.heap.size 0 [.int .i64 13, .string ⟨#[]⟩, .int .i64 0, .float .f64 0, .bool false, .slice ad1 l.length ca1] := World.rangeAt_setCells_same _ _ _ _ htC
      have hfw : Fr (fun k => k = w.heap.size) W8 (W8.setCells w.heap.size 0 [.int .i64 13, .string ⟨#[]⟩, .int .i64 0, .float .f64 0, .bool false, .slice ad1 l.length ca1]) := Fr.setCells (S := fun k => k = w.heap.size) (fun _ => rfl) _ _ _ (Fr.refl _ _)
      have hff := hf08.trans_new hfw (fun i hi e => by omega)
      have hrs : RS rp w0 (W8.setCells w.heap.size 0 [.int .i64 13, .string ⟨#[]⟩, .int .i64 0, .float .f64 0, .bool false, .slice ad1 l.length ca1]) g b o n cap s _ m2 := h8.fr hfw (by omega) (by omega) (fun i e => by have := h.out.base; omega)
      have hrv9 := hrv8.mono (newer_fr hfw hlt7)
      replace htC := Lib.hid htC
      replace hrR := Lib.hid hrR
      replace hff := Lib.hid hff
      replace hrs := Lib.hid hrs
      replace hrv9 := Lib.hid hrv9
      clear hfw hrv8 h8 hf08 hz8 hk8
      go_wp2_with (refine wpList_store_mid rfl 26 _ _ rfl w.heap.size 0 _ rfl rfl htC.out infoVal (one6 _ _ _ _ _ _ _ _) ?_)
      refine bodyPost_ret (results_cell1 (v := .agg #[.int .i64 13, .string ⟨#[]⟩, .int .i64 0, .float .f64 0, .bool false, .slice ad1 l.length ca1]) rfl rfl (run_loadVar_mid (P := Tryz.prog) _ _ 0 26 _ _ hrR.out Tryz.underlying26 rfl infoVal)) rfl ?_
      rw [← hkd.out]
      exact ⟨ad1, ca1, rfl, hrv9.out, hff.out, by rw [show at_ + (1 + u + u2) = at_ + 1 + u + u2 by omega]; exact hrs.out⟩
    · clear hn
      go_wp2_with fail
      refine hno6.out.mono ?_
      rintro e W7 ⟨rfl, hb⟩
      have h7 := h6.out.grow hb
      have hf7 := hf06.out.trans (fr_of_below (g := g) hb)
      have hz7 : W7.rangeAt w.heap.size 0 [.int .i64 0, .string ⟨#[]⟩, .int .i64 0, .float .f64 0, .bool false, .slice none 0 0] := fun q x hq => by rw [(hb).cell (World.block_lt_of_cell? _ _ (hz6.out q x hq))]; exact hz6.out q x hq
      have hk7 : Blk W7 w.heap.size := hk6.out.of_block ((hb).block _ hk6.out.lt)
      replace h7 := Lib.hid h7
      replace hf7 := Lib.hid hf7
      replace hz7 := Lib.hid hz7
      replace hk7 := Lib.hid hk7
      clear hb
      go_wp2_with fail
      refine (hcall.out W7 h7.out).mono ?_
      rintro e W8 ⟨ad1, ca1, rfl, hrv8, hf8, h8⟩
      have hf08 := hf7.out.trans hf8
      have hne6 : ¬ w.heap.size = g := by omega
      have hz8 : W8.rangeAt w.heap.size 0 [.int .i64 0, .string ⟨#[]⟩, .int .i64 0, .float .f64 0, .bool false, .slice none 0 0] := fun q x hq => hf8.cell (hz7.out q x hq) hne6
      have hk8 : Blk W8 w.heap.size := hk7.out.fr hf8 hne6
      have hlt7 := hk7.out.lt
      clear hf8
      have htC := there_of (n := 6) hz8 hk8 rfl
      have hrR : (W8.setCells w.heap.size 0 [.int .i64 14, .string ⟨#[]⟩, .int .i64 0, .float .f64 0, .bool false, .slice ad1 l.length ca1]).rangeAt w.heap.size 0 [.int .i64 14, .string ⟨#[]⟩, .int .i64 0, .float .f64 0, .bool false, .slice ad1 l.length ca1] := World.rangeAt_setCells_same _ _ _ _ htC
      have hfw : Fr (fun k => k = w.heap.size) W8 (W8.setCells w.heap.size 0 [.int .i64 14, .string ⟨#[]⟩, .int .i64 0, .float .f64 0, .bool false, .slice ad1 l.length ca1]) := Fr.setCells (S := fun k => k = w.heap.size) (fun _ => rfl) _ _ _ (Fr.refl _ _)
      have hff := hf08.trans_new hfw (fun i hi e => by omega)
      have hrs : RS rp w0 (W8.setCells w.heap.size 0 [.int .i64 14, .string ⟨#[]⟩, .int .i64 0, .float .f64 0, .bool false, .slice ad1 l.length ca1]) g b o n cap s _ m2 := h8.fr hfw (by omega) (by omega) (fun i e => by have := h.out.base; omega)
      have hrv9 := hrv8.mono (newer_fr hfw hlt7)
      replace htC := Lib.hid htC
      replace hrR := Lib.hid hrR
      replace hff := Lib.hid hff
      replace hrs := Lib.hid hrs
      replace hrv9 := Lib.hid hrv9
      clear hfw hrv8 h8 hf08 hz8 hk8
      go_wp2_with (refine wpList_store_mid rfl 26 _ _ rfl w.heap.size 0 _ rfl rfl htC.out infoVal (one6 _ _ _ _ _ _ _ _) ?_)
      refine bodyPost_ret (results_cell1 (v := .agg #[.int .i64 14, .string ⟨#[]⟩, .int .i64 0, .float .f64 0, .bool false, .slice ad1 l.length ca1]) rfl rfl (run_loadVar_mid (P := Tryz.prog) _ _ 0 26 _ _ hrR.out Tryz.underlying26 rfl infoVal)) rfl ?_
      rw [← hkd.out]
      exact ⟨ad1, ca1, rfl, hrv9.out, hff.out, by rw [show at_ + (1 + u + u2) = at_ + 1 + u + u2 by omega]; exact hrs.out⟩
    · clear hn
      go_wp2_with fail
      refine hno6.out.mono ?_
      rintro e W7 ⟨rfl, hb⟩
      have h7 := h6.out.grow hb
      have hf7 := hf06.out.trans (fr_of_below (g := g) hb)
      have hz7 : W7.rangeAt w.heap.size 0 [.int .i64 0, .string ⟨#[]⟩, .int .i64 0, .float .f64 0, .bool false, .slice none 0 0] := fun q x hq => by rw [(hb).cell (World.block_lt_of_cell? _ _ (hz6.out q x hq))]; exact hz6.out q x hq
      have hk7 : Blk W7 w.heap.size := hk6.out.of_block ((hb).block _ hk6.out.lt)
      replace h7 := Lib.hid h7
      replace hf7 := Lib.hid hf7
      replace hz7 := Lib.hid hz7
      replace hk7 := Lib.hid hk7
      clear hb
      go_wp2_with fail
      have e12 : (2 : Int) * (len : Int) = ((2 * len : Nat) : Int) := by omega
      try rw [e12]
      clear e12
      refine (hcall.out W7 h7.out).mono ?_
      rintro e W8 ⟨ad1, ca1, rfl, hrv8, hf8, h8⟩
      have hf08 := hf7.out.trans hf8
      have hne6 : ¬ w.heap.size = g := by omega
      have hz8 : W8.rangeAt w.heap.size 0 [.int .i64 0, .string ⟨#[]⟩, .int .i64 0, .float .f64 0, .bool false, .slice none 0 0] := fun q x hq => hf8.cell (hz7.out q x hq) hne6
      have hk8 : Blk W8 w.heap.size := hk7.out.fr hf8 hne6
      have hlt7 := hk7.out.lt
      clear hf8
      have htC := there_of (n := 6) hz8 hk8 rfl
      have hrR : (W8.setCells w.heap.size 0 [.int .i64 12, .string ⟨#[]⟩, .int .i64 0, .float .f64 0, .bool false, .slice ad1 l.length ca1]).rangeAt w.heap.size 0 [.int .i64 12, .string ⟨#[]⟩, .int .i64 0, .float .f64 0, .bool false, .slice ad1 l.length ca1] := World.rangeAt_setCells_same _ _ _ _ htC
      have hfw : Fr (fun k => k = w.heap.size) W8 (W8.setCells w.heap.size 0 [.int .i64 12, .string ⟨#[]⟩, .int .i64 0, .float .f64 0, .bool false, .slice ad1 l.length ca1]) := Fr.setCells (S := fun k => k = w.heap.size) (fun _ => rfl) _ _ _ (Fr.refl _ _)
      have hff := hf08.trans_new hfw (fun i hi e => by omega)
      have hrs : RS rp w0 (W8.setCells w.heap.size 0 [.int .i64 12, .string ⟨#[]⟩, .int .i64 0, .float .f64 0, .bool false, .slice ad1 l.length ca1]) g b o n cap s _ m2 := h8.fr hfw (by omega) (by omega) (fun i e => by have := h.out.base; omega)
      have hrv9 := hrv8.mono (newer_fr hfw hlt7)
      replace htC := Lib.hid htC
      replace hrR := Lib.hid hrR
      replace hff := Lib.hid hff
      replace hrs := Lib.hid hrs
      replace hrv9 := Lib.hid hrv9
      clear hfw hrv8 h8 hf08 hz8 hk8
      go_wp2_with (refine wpList_store_mid rfl 26 _ _ rfl w.heap.size 0 _ rfl rfl htC.out infoVal (one6 _ _ _ _ _ _ _ _) ?_)
      refine bodyPost_ret (results_cell1 (v := .agg #[.int .i64 12, .string ⟨#[]⟩, .int .i64 0, .float .f64 0, .bool false, .slice ad1 l.length ca1]) rfl rfl (run_loadVar_mid (P := Tryz.prog) _ _ 0 26 _ _ hrR.out Tryz.underlying26 rfl infoVal)) rfl ?_
      rw [← hkd.out]
      exact ⟨ad1, ca1, rfl, hrv9.out, hff.out, by rw [show at_ + (1 + u + u2) = at_ + 1 + u + u2 by omega]; exact hrs.out⟩
end Go.Proofs.YtagkgfniihiinaaGreatDoor
