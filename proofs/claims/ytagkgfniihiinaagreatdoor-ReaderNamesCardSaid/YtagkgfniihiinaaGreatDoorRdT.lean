/- The reader: texts with their length. -/
import Derived.Test.YtagkgfniihiinaaGreatDoorRdW2
namespace Go.Proofs.YtagkgfniihiinaaGreatDoor
open Go.RowKit

theorem long_len {L x : List UInt8} {k : Nat} (h : longS L k = .got x) : x.length = k := by
  unfold longS at h
  split at h
  · cases h
  · split at h
    · cases h
    · simp only [Out.got.injEq] at h
      rw [← h, List.length_take]; omega
theorem numS_le {t : List UInt8} {most k : Nat} (h : numS t most = some k) : k ≤ most := by
  unfold numS at h
  split at h
  · split at h
    · have := Option.some.inj h; omega
    · cases h
  · cases h
set_option maxRecDepth 100000 in
set_option maxHeartbeats 6400000 in
theorem value_lstop {rp : Rp} {w0 w : World} {g b o n cap at_ many u q len : Nat} {s : ByteArray} {d : Int} {c : UInt8} {t L : List UInt8} (h : RS rp w0 w g b o n cap s at_ many) (hL : s.data.toList.drop at_ = c :: L)
    (hk : kindR c = 4 ∨ kindR c = 10 ∨ kindR c = 11) (hl : lineS L = .got (t, u)) (hn : ¬ (t = [45, 49] ∧ (kindR c = 4 ∨ kindR c = 5))) (hm : numS t 4096 = some len) (hlo : longS (L.drop u) len = .stop q) :
    Calls Tryz.prog 46 #[.pointer (some ⟨g, 0, none⟩), .int .i64 d] w fun e w' => e = stopE q ∧ Fr (fun k => k = g) w w' := by
  have hle : len ≤ 4096 := numS_le hm
  obtain ⟨kd, hkd⟩ : ∃ kd, kd = kindR c := ⟨_, rfl⟩
  rw [← hkd] at hk hn
  have hlen := line_len hl
  have hts : (⟨t.toArray⟩ : ByteArray).size ≤ 1000000 := by
    rw [size_r]; show t.length ≤ _; omega
  have htl : ((⟨t.toArray⟩ : ByteArray).toList == [45, 49]) = decide (t = [45, 49]) := by
    rw [ByteArray.toList_eq]
    show (t == [45, 49]) = _
    rw [Bool.eq_iff_iff, beq_iff_eq, decide_eq_true_eq]
  replace hl := Lib.hid hl
  have hlt : at_ < n := by
    rcases Nat.lt_or_ge at_ n with hh | hh
    · exact hh
    · rw [List.drop_of_length_le (by rw [← size_r, h.scan.size]; exact hh)] at hL; cases hL
  have hai : ¬ (n : Int) ≤ (at_ : Int) := by omega
  have hai2 : (at_ : Int) < (n : Int) := by omega
  have hbig := h.scan.big
  obtain ⟨hcel, hL2⟩ : w.cell? ⟨b, o + at_, none⟩ = some (.int .u8 (c.toNat : Int)) ∧ s.data.toList.drop (at_ + 1) = L := by
    have hz := h.scan.size
    have h1 := h.scan.bytes at_ (by omega)
    have e1 := Lib.data_getElem? s at_ (by omega)
    have e2 : s.data.toList[at_]? = some c := by
      have := congrArg (·[0]?) hL
      simp only [List.getElem?_drop, Nat.add_zero] at this
      exact this
    rw [e1] at e2
    rw [h1, Option.some.inj e2]
    refine ⟨rfl, ?_⟩
    rw [← List.drop_drop, hL]; rfl
  have hcb := World.block_lt_of_cell? _ _ hcel
  replace hcb : b < w.heap.size := hcb
  replace hL := Lib.hid hL
  replace hL2 := Lib.hid hL2
  replace hcel := Lib.hid hcel
  obtain ⟨W1, hW1⟩ : ∃ W1, W1 = w.alloc (.cells #[.int .i64 0, .string ⟨#[]⟩, .int .i64 0, .float .f64 0, .bool false, .slice none 0 0] 26) := ⟨_, rfl⟩
  have hb1 : Below w.heap.size w W1 := by rw [hW1]; exact (Below.refl _ _).alloc (Nat.le_refl _) _
  have h1 := h.grow hb1
  have hz1 : W1.rangeAt w.heap.size 0 [.int .i64 0, .string ⟨#[]⟩, .int .i64 0, .float .f64 0, .bool false, .slice none 0 0] := by
    rw [hW1]; intro q x hq; rw [Nat.zero_add, World.cell?_alloc_new]; simpa using hq
  have hk1 : Blk W1 w.heap.size := by rw [hW1]; exact Blk.new _ _ _
  have c0 := h1.scan.c0
  have c1 := h1.scan.c1
  have hgl : g < W1.heap.size := h1.scan.blk.lt
  have hgw : g < w.heap.size := h.scan.blk.lt
  replace hW1 := Lib.hid hW1
  replace hb1 := Lib.hid hb1
  replace h1 := Lib.hid h1
  replace hz1 := Lib.hid hz1
  replace hk1 := Lib.hid hk1
  replace h := Lib.hid h
  go_enter Tryz.func46, Tryz.ntmps46
  go_wp2_with fail
  rw [← hW1.out]
  refine wp_region_grow (by kernel_rfl) (by kernel_rfl) ?_
  repeat (go_big_quiet_step ((fail)))
  refine wpQuiet_nil ?_
  rintro _ ⟨xq, rfl⟩
  have hS := grow_below W1 xq
  obtain ⟨W2, hW2⟩ : ∃ W2, W2 = grow W1 xq := ⟨_, rfl⟩
  rw [← hW2] at hS ⊢
  replace hW2 := Lib.hid hW2
  have h2 := h1.out.grow hS
  have hb2 : Below w.heap.size w W2 := hb1.out.trans (hS.mono hb1.out.size)
  have hz2 : W2.rangeAt w.heap.size 0 [.int .i64 0, .string ⟨#[]⟩, .int .i64 0, .float .f64 0, .bool false, .slice none 0 0] := fun q x hq => by rw [hS.cell (World.block_lt_of_cell? _ _ (hz1.out q x hq))]; exact hz1.out q x hq
  have hk2 : Blk W2 w.heap.size := hk1.out.of_block (hS.block _ hk1.out.lt)
  clear c0 c1 hS
  replace h2 := Lib.hid h2
  replace hb2 := Lib.hid hb2
  replace hz2 := Lib.hid hz2
  replace hk2 := Lib.hid hk2
  have c0 := h2.out.scan.c0
  have c1 := h2.out.scan.c1
  have cc := (hb2.out.cell (p := ⟨b, o + at_, none⟩) hcb).trans hcel.out
  have hgl2 : g < W2.heap.size := h2.out.scan.blk.lt
  have hbl2 : b < W2.heap.size := Nat.lt_of_lt_of_le hcb hb2.out.size
  go_wp2_with fail
  refine wp_region_grow (by kernel_rfl) (by kernel_rfl) ?_
  repeat (go_big_quiet_step ((go_at_call 63; (with_reducible exact quiet_grow (kinds_grow _ _)))))
  refine wpQuiet_nil ?_
  rintro _ ⟨xq, rfl⟩
  have hS := grow_below W2 xq
  obtain ⟨W3, hW3⟩ : ∃ W3, W3 = grow W2 xq := ⟨_, rfl⟩
  rw [← hW3] at hS ⊢
  replace hW3 := Lib.hid hW3
  have h3 := h2.out.grow hS
  have hb3 : Below w.heap.size w W3 := hb2.out.trans (hS.mono hb2.out.size)
  have hz3 : W3.rangeAt w.heap.size 0 [.int .i64 0, .string ⟨#[]⟩, .int .i64 0, .float .f64 0, .bool false, .slice none 0 0] := fun q x hq => by rw [hS.cell (World.block_lt_of_cell? _ _ (hz2.out q x hq))]; exact hz2.out q x hq
  have hk3 : Blk W3 w.heap.size := hk2.out.of_block (hS.block _ hk2.out.lt)
  clear c0 c1 hS cc
  replace h3 := Lib.hid h3
  replace hb3 := Lib.hid hb3
  replace hz3 := Lib.hid hz3
  replace hk3 := Lib.hid hk3
  rw [← hkd]
  have hk0 : ((kd : Int) == 0) = false := by simp; omega
  replace hkd := Lib.hid hkd
  have c1 := h3.out.scan.c1
  have fz := h3.out.scan.blk.frz 1 none
  go_wp2_with fail
  have e4 : (at_ : Int) + 1 = ((at_ + 1 : Nat) : Int) := by omega
  rw [e4]
  have hf4 : Fr (fun k => k = g) w (W3.setCell ⟨g, 1, none⟩ (.int .i64 ((at_ + 1 : Nat) : Int))) := Fr.setCell (S := fun k => k = g) (fr_of_below hb3.out) (fun _ => rfl) _
  have h4 : RS rp w0 (W3.setCell ⟨g, 1, none⟩ (.int .i64 ((at_ + 1 : Nat) : Int))) g b o n cap s (at_ + 1) many := h3.out.next (Fr.setCell (S := fun k => k = g) (Fr.refl _ _) (fun _ => rfl) _) (h3.out.scan.move _) (by omega)
  have hz4 : (W3.setCell ⟨g, 1, none⟩ (.int .i64 ((at_ + 1 : Nat) : Int))).rangeAt w.heap.size 0 [.int .i64 0, .string ⟨#[]⟩, .int .i64 0, .float .f64 0, .bool false, .slice none 0 0] := fun q x hq => by
    rw [cell_set_ne (fun e => by have := congrArg Addr.block e; simp at this; omega)]; exact hz3.out q x hq
  have hk4 : Blk (W3.setCell ⟨g, 1, none⟩ (.int .i64 ((at_ + 1 : Nat) : Int))) w.heap.size := hk3.out.setCell _ _
  generalize W3.setCell ⟨g, 1, none⟩ (.int .i64 ((at_ + 1 : Nat) : Int)) = W4 at *
  clear c1 fz e4
  replace h4 := Lib.hid h4
  replace hf4 := Lib.hid hf4
  replace hz4 := Lib.hid hz4
  replace hk4 := Lib.hid hk4
  refine (line_got h4.out.scan h4.out.le (by rw [hL2.out]; exact hl.out)).mono ?_
  rintro e W6 ⟨rfl, hf6, hs6, hle6⟩
  have h6 := h4.out.next hf6 hs6 hle6
  have hf06 := hf4.out.trans hf6
  have hne6 : ¬ w.heap.size = g := by omega
  have hz6 : W6.rangeAt w.heap.size 0 [.int .i64 0, .string ⟨#[]⟩, .int .i64 0, .float .f64 0, .bool false, .slice none 0 0] := fun q x hq => hf6.cell (hz4.out q x hq) hne6
  have hk6 : Blk W6 w.heap.size := hk4.out.fr hf6 hne6
  clear hf6 hs6 hle6
  replace h6 := Lib.hid h6
  replace hf06 := Lib.hid hf06
  replace hz6 := Lib.hid hz6
  replace hk6 := Lib.hid hk6
  have hno6 := number_got (w := W6) (t := ⟨t.toArray⟩) (most := 4096) hts (by omega) h6.out.nums hm
  have hlg : ∀ W, Below W6.heap.size W6 W → Calls Tryz.prog 67 #[.pointer (some ⟨g, 0, none⟩), .int .i64 (len : Int)] W fun e w' => e = stopE q ∧ Below W.heap.size W w' := fun W hW =>
    long_stop (h6.out.grow hW).scan (h6.out.grow hW).le (by omega) (by rw [← List.drop_drop, hL2.out]; exact hlo)
  replace hno6 := Lib.hid hno6
  replace hlg := Lib.hid hlg
  clear hm hlo hlen hts
  generalize (⟨t.toArray⟩ : ByteArray) = T at *
  by_cases ht : t = [45, 49]
  · rw [decide_eq_true ht] at htl
    rcases hk with rfl | rfl | rfl
    · exact absurd ⟨ht, .inl rfl⟩ hn
    · clear hn
      go_wp2_with fail
      refine hno6.out.mono ?_
      rintro e W7 ⟨rfl, hb⟩
      go_wp2_with fail
      refine (hlg.out W7 hb).mono ?_
      rintro e w' ⟨rfl, hb2⟩
      exact ⟨rfl, rfl, hf06.out.trans (fr_of_below (g := g) (hb.trans (hb2.mono hb.size)))⟩
    · clear hn
      go_wp2_with fail
      refine hno6.out.mono ?_
      rintro e W7 ⟨rfl, hb⟩
      go_wp2_with fail
      refine (hlg.out W7 hb).mono ?_
      rintro e w' ⟨rfl, hb2⟩
      exact ⟨rfl, rfl, hf06.out.trans (fr_of_below (g := g) (hb.trans (hb2.mono hb.size)))⟩
  · rw [decide_eq_false ht] at htl
    replace ht := Lib.hid ht
    rcases hk with rfl | rfl | rfl
    · clear hn
      go_wp2_with fail
      refine hno6.out.mono ?_
      rintro e W7 ⟨rfl, hb⟩
      go_wp2_with fail
      refine (hlg.out W7 hb).mono ?_
      rintro e w' ⟨rfl, hb2⟩
      exact ⟨rfl, rfl, hf06.out.trans (fr_of_below (g := g) (hb.trans (hb2.mono hb.size)))⟩
    · clear hn
      go_wp2_with fail
      refine hno6.out.mono ?_
      rintro e W7 ⟨rfl, hb⟩
      go_wp2_with fail
      refine (hlg.out W7 hb).mono ?_
      rintro e w' ⟨rfl, hb2⟩
      exact ⟨rfl, rfl, hf06.out.trans (fr_of_below (g := g) (hb.trans (hb2.mono hb.size)))⟩
    · clear hn
      go_wp2_with fail
      refine hno6.out.mono ?_
      rintro e W7 ⟨rfl, hb⟩
      go_wp2_with fail
      refine (hlg.out W7 hb).mono ?_
      rintro e w' ⟨rfl, hb2⟩
      exact ⟨rfl, rfl, hf06.out.trans (fr_of_below (g := g) (hb.trans (hb2.mono hb.size)))⟩
set_option maxRecDepth 100000 in
set_option maxHeartbeats 6400000 in
theorem value_ltext {rp : Rp} {w0 w : World} {g b o n cap at_ many u len : Nat} {s : ByteArray} {d : Int} {c : UInt8} {t L x : List UInt8} (h : RS rp w0 w g b o n cap s at_ many) (hL : s.data.toList.drop at_ = c :: L)
    (hk : kindR c = 4 ∨ kindR c = 10 ∨ kindR c = 11) (hl : lineS L = .got (t, u)) (hn : ¬ (t = [45, 49] ∧ (kindR c = 4 ∨ kindR c = 5))) (hm : numS t 4096 = some len) (hlo : longS (L.drop u) len = .got x) (ok : okV (leafV (kindR c) ⟨x.toArray⟩ 0 0 false) = true) :
    Calls Tryz.prog 46 #[.pointer (some ⟨g, 0, none⟩), .int .i64 d] w (ValQ rp w0 g b o n cap s at_ (.got (leafV (kindR c) ⟨x.toArray⟩ 0 0 false, 1 + u + (len + 2), many)) w) := by
  have hle : len ≤ 4096 := numS_le hm
  obtain ⟨kd, hkd⟩ : ∃ kd, kd = kindR c := ⟨_, rfl⟩
  rw [← hkd] at hk hn
  have hlen := line_len hl
  have hts : (⟨t.toArray⟩ : ByteArray).size ≤ 1000000 := by
    rw [size_r]; show t.length ≤ _; omega
  have htl : ((⟨t.toArray⟩ : ByteArray).toList == [45, 49]) = decide (t = [45, 49]) := by
    rw [ByteArray.toList_eq]
    show (t == [45, 49]) = _
    rw [Bool.eq_iff_iff, beq_iff_eq, decide_eq_true_eq]
  replace hl := Lib.hid hl
  have hlt : at_ < n := by
    rcases Nat.lt_or_ge at_ n with hh | hh
    · exact hh
    · rw [List.drop_of_length_le (by rw [← size_r, h.scan.size]; exact hh)] at hL; cases hL
  have hai : ¬ (n : Int) ≤ (at_ : Int) := by omega
  have hai2 : (at_ : Int) < (n : Int) := by omega
  have hbig := h.scan.big
  obtain ⟨hcel, hL2⟩ : w.cell? ⟨b, o + at_, none⟩ = some (.int .u8 (c.toNat : Int)) ∧ s.data.toList.drop (at_ + 1) = L := by
    have hz := h.scan.size
    have h1 := h.scan.bytes at_ (by omega)
    have e1 := Lib.data_getElem? s at_ (by omega)
    have e2 : s.data.toList[at_]? = some c := by
      have := congrArg (·[0]?) hL
      simp only [List.getElem?_drop, Nat.add_zero] at this
      exact this
    rw [e1] at e2
    rw [h1, Option.some.inj e2]
    refine ⟨rfl, ?_⟩
    rw [← List.drop_drop, hL]; rfl
  have hcb := World.block_lt_of_cell? _ _ hcel
  replace hcb : b < w.heap.size := hcb
  replace hL := Lib.hid hL
  replace hL2 := Lib.hid hL2
  replace hcel := Lib.hid hcel
  obtain ⟨W1, hW1⟩ : ∃ W1, W1 = w.alloc (.cells #[.int .i64 0, .string ⟨#[]⟩, .int .i64 0, .float .f64 0, .bool false, .slice none 0 0] 26) := ⟨_, rfl⟩
  have hb1 : Below w.heap.size w W1 := by rw [hW1]; exact (Below.refl _ _).alloc (Nat.le_refl _) _
  have h1 := h.grow hb1
  have hz1 : W1.rangeAt w.heap.size 0 [.int .i64 0, .string ⟨#[]⟩, .int .i64 0, .float .f64 0, .bool false, .slice none 0 0] := by
    rw [hW1]; intro q x hq; rw [Nat.zero_add, World.cell?_alloc_new]; simpa using hq
  have hk1 : Blk W1 w.heap.size := by rw [hW1]; exact Blk.new _ _ _
  have c0 := h1.scan.c0
  have c1 := h1.scan.c1
  have hgl : g < W1.heap.size := h1.scan.blk.lt
  have hgw : g < w.heap.size := h.scan.blk.lt
  replace hW1 := Lib.hid hW1
  replace hb1 := Lib.hid hb1
  replace h1 := Lib.hid h1
  replace hz1 := Lib.hid hz1
  replace hk1 := Lib.hid hk1
  replace h := Lib.hid h
  go_enter Tryz.func46, Tryz.ntmps46
  go_wp2_with fail
  rw [← hW1.out]
  refine wp_region_grow (by kernel_rfl) (by kernel_rfl) ?_
  repeat (go_big_quiet_step ((fail)))
  refine wpQuiet_nil ?_
  rintro _ ⟨xq, rfl⟩
  have hS := grow_below W1 xq
  obtain ⟨W2, hW2⟩ : ∃ W2, W2 = grow W1 xq := ⟨_, rfl⟩
  rw [← hW2] at hS ⊢
  replace hW2 := Lib.hid hW2
  have h2 := h1.out.grow hS
  have hb2 : Below w.heap.size w W2 := hb1.out.trans (hS.mono hb1.out.size)
  have hz2 : W2.rangeAt w.heap.size 0 [.int .i64 0, .string ⟨#[]⟩, .int .i64 0, .float .f64 0, .bool false, .slice none 0 0] := fun q x hq => by rw [hS.cell (World.block_lt_of_cell? _ _ (hz1.out q x hq))]; exact hz1.out q x hq
  have hk2 : Blk W2 w.heap.size := hk1.out.of_block (hS.block _ hk1.out.lt)
  clear c0 c1 hS
  replace h2 := Lib.hid h2
  replace hb2 := Lib.hid hb2
  replace hz2 := Lib.hid hz2
  replace hk2 := Lib.hid hk2
  have c0 := h2.out.scan.c0
  have c1 := h2.out.scan.c1
  have cc := (hb2.out.cell (p := ⟨b, o + at_, none⟩) hcb).trans hcel.out
  have hgl2 : g < W2.heap.size := h2.out.scan.blk.lt
  have hbl2 : b < W2.heap.size := Nat.lt_of_lt_of_le hcb hb2.out.size
  go_wp2_with fail
  refine wp_region_grow (by kernel_rfl) (by kernel_rfl) ?_
  repeat (go_big_quiet_step ((go_at_call 63; (with_reducible exact quiet_grow (kinds_grow _ _)))))
  refine wpQuiet_nil ?_
  rintro _ ⟨xq, rfl⟩
  have hS := grow_below W2 xq
  obtain ⟨W3, hW3⟩ : ∃ W3, W3 = grow W2 xq := ⟨_, rfl⟩
  rw [← hW3] at hS ⊢
  replace hW3 := Lib.hid hW3
  have h3 := h2.out.grow hS
  have hb3 : Below w.heap.size w W3 := hb2.out.trans (hS.mono hb2.out.size)
  have hz3 : W3.rangeAt w.heap.size 0 [.int .i64 0, .string ⟨#[]⟩, .int .i64 0, .float .f64 0, .bool false, .slice none 0 0] := fun q x hq => by rw [hS.cell (World.block_lt_of_cell? _ _ (hz2.out q x hq))]; exact hz2.out q x hq
  have hk3 : Blk W3 w.heap.size := hk2.out.of_block (hS.block _ hk2.out.lt)
  clear c0 c1 hS cc
  replace h3 := Lib.hid h3
  replace hb3 := Lib.hid hb3
  replace hz3 := Lib.hid hz3
  replace hk3 := Lib.hid hk3
  rw [← hkd]
  have hk0 : ((kd : Int) == 0) = false := by simp; omega
  replace hkd := Lib.hid hkd
  have c1 := h3.out.scan.c1
  have fz := h3.out.scan.blk.frz 1 none
  go_wp2_with fail
  have e4 : (at_ : Int) + 1 = ((at_ + 1 : Nat) : Int) := by omega
  rw [e4]
  have hf4 : Fr (fun k => k = g) w (W3.setCell ⟨g, 1, none⟩ (.int .i64 ((at_ + 1 : Nat) : Int))) := Fr.setCell (S := fun k => k = g) (fr_of_below hb3.out) (fun _ => rfl) _
  have h4 : RS rp w0 (W3.setCell ⟨g, 1, none⟩ (.int .i64 ((at_ + 1 : Nat) : Int))) g b o n cap s (at_ + 1) many := h3.out.next (Fr.setCell (S := fun k => k = g) (Fr.refl _ _) (fun _ => rfl) _) (h3.out.scan.move _) (by omega)
  have hz4 : (W3.setCell ⟨g, 1, none⟩ (.int .i64 ((at_ + 1 : Nat) : Int))).rangeAt w.heap.size 0 [.int .i64 0, .string ⟨#[]⟩, .int .i64 0, .float .f64 0, .bool false, .slice none 0 0] := fun q x hq => by
    rw [cell_set_ne (fun e => by have := congrArg Addr.block e; simp at this; omega)]; exact hz3.out q x hq
  have hk4 : Blk (W3.setCell ⟨g, 1, none⟩ (.int .i64 ((at_ + 1 : Nat) : Int))) w.heap.size := hk3.out.setCell _ _
  generalize W3.setCell ⟨g, 1, none⟩ (.int .i64 ((at_ + 1 : Nat) : Int)) = W4 at *
  clear c1 fz e4
  replace h4 := Lib.hid h4
  replace hf4 := Lib.hid hf4
  replace hz4 := Lib.hid hz4
  replace hk4 := Lib.hid hk4
  refine (line_got h4.out.scan h4.out.le (by rw [hL2.out]; exact hl.out)).mono ?_
  rintro e W6 ⟨rfl, hf6, hs6, hle6⟩
  have h6 := h4.out.next hf6 hs6 hle6
  have hf06 := hf4.out.trans hf6
  have hne6 : ¬ w.heap.size = g := by omega
  have hz6 : W6.rangeAt w.heap.size 0 [.int .i64 0, .string ⟨#[]⟩, .int .i64 0, .float .f64 0, .bool false, .slice none 0 0] := fun q x hq => hf6.cell (hz4.out q x hq) hne6
  have hk6 : Blk W6 w.heap.size := hk4.out.fr hf6 hne6
  clear hf6 hs6 hle6
  replace h6 := Lib.hid h6
  replace hf06 := Lib.hid hf06
  replace hz6 := Lib.hid hz6
  replace hk6 := Lib.hid hk6
  have hno6 := number_got (w := W6) (t := ⟨t.toArray⟩) (most := 4096) hts (by omega) h6.out.nums hm
  have hxl : x.length ≤ 4096 := by
    have := long_len hlo; omega
  have hlg : ∀ W, Below W6.heap.size W6 W → Calls Tryz.prog 67 #[.pointer (some ⟨g, 0, none⟩), .int .i64 (len : Int)] W fun e w' => e = .returned (.string ⟨x.toArray⟩) ∧ Fr (fun k => k = g) W w' ∧ Scan w' g b o n cap s (at_ + 1 + u + (len + 2)) many ∧ at_ + 1 + u + (len + 2) ≤ n := fun W hW =>
    long_got (h6.out.grow hW).scan (h6.out.grow hW).le (by omega) (by rw [← List.drop_drop, hL2.out]; exact hlo)
  have hX : (⟨x.toArray⟩ : ByteArray).size ≤ 4096 := by rw [size_r]; exact hxl
  replace hno6 := Lib.hid hno6
  replace hlg := Lib.hid hlg
  clear hm hlo hlen hts hxl
  generalize (⟨t.toArray⟩ : ByteArray) = T at *
  rw [← hkd.out] at ok ⊢
  generalize (⟨x.toArray⟩ : ByteArray) = X at *
  replace ok := Lib.hid ok
  by_cases ht : t = [45, 49]
  · rw [decide_eq_true ht] at htl
    rcases hk with rfl | rfl | rfl
    · exact absurd ⟨ht, .inl rfl⟩ hn
    · clear hn
      go_wp2_with fail
      refine hno6.out.mono ?_
      rintro e W7 ⟨rfl, hb⟩
      have h7 := h6.out.grow hb
      have hf7 := hf06.out.trans (fr_of_below (g := g) hb)
      have hz7 : W7.rangeAt w.heap.size 0 [.int .i64 0, .string ⟨#[]⟩, .int .i64 0, .float .f64 0, .bool false, .slice none 0 0] := fun q x hq => by rw [(hb).cell (World.block_lt_of_cell? _ _ (hz6.out q x hq))]; exact hz6.out q x hq
      have hk7 : Blk W7 w.heap.size := hk6.out.of_block ((hb).block _ hk6.out.lt)
      replace h7 := Lib.hid h7
      replace hf7 := Lib.hid hf7
      replace hz7 := Lib.hid hz7
      replace hk7 := Lib.hid hk7
      go_wp2_with fail
      refine (hlg.out W7 hb).mono ?_
      rintro e W8 ⟨rfl, hf8, hs8, hl8⟩
      have h8 := h7.out.next hf8 hs8 hl8
      have hf08 := hf7.out.trans hf8
      have hne6 : ¬ w.heap.size = g := by omega
      have hz8 : W8.rangeAt w.heap.size 0 [.int .i64 0, .string ⟨#[]⟩, .int .i64 0, .float .f64 0, .bool false, .slice none 0 0] := fun q x hq => hf8.cell (hz7.out q x hq) hne6
      have hk8 : Blk W8 w.heap.size := hk7.out.fr hf8 hne6
      obtain ⟨W9, hW9⟩ : ∃ W9, W9 = W8.alloc (.cells #[.int .i64 10, .string X, .int .i64 0, .float .f64 0, .bool false, .slice none 0 0] 26) := ⟨_, rfl⟩
      have hb9 : Below W8.heap.size W8 W9 := by rw [hW9]; exact (Below.refl _ _).alloc (Nat.le_refl _) _
      have hck := leaf_any 10 X 0 0 false (by decide) (by omega) W9
      have hv9 : W9.rangeAt W8.heap.size 0 [.int .i64 10, .string X, .int .i64 0, .float .f64 0, .bool false, .slice none 0 0] := by
        rw [hW9]; intro q x hq; rw [Nat.zero_add, World.cell?_alloc_new]; simpa using hq
      clear hf8 hs8 hl8 hb
      replace h8 := Lib.hid h8
      replace hf08 := Lib.hid hf08
      replace hz8 := Lib.hid hz8
      replace hk8 := Lib.hid hk8
      replace hv9 := Lib.hid hv9
      replace hb9 := Lib.hid hb9
      replace hW9 := Lib.hid hW9
      rw [if_pos (by simpa using ok.out)] at hck
      replace hck := Lib.hid hck
      go_wp2_with fail
      rw [← hW9.out]
      refine hck.out.mono ?_
      rintro e W10 ⟨rfl, hb10⟩
      have hb := hb9.out.trans (hb10.mono hb9.out.size)
      have hv10 : W10.rangeAt W8.heap.size 0 [.int .i64 10, .string X, .int .i64 0, .float .f64 0, .bool false, .slice none 0 0] := fun q x hq => by rw [hb10.cell (World.block_lt_of_cell? _ _ (hv9.out q x hq))]; exact hv9.out q x hq
      have hA := h8.out.grow hb
      have hfA := hf08.out.trans (fr_of_below (g := g) hb)
      have hzA : W10.rangeAt w.heap.size 0 [.int .i64 0, .string ⟨#[]⟩, .int .i64 0, .float .f64 0, .bool false, .slice none 0 0] := fun q x hq => by rw [hb.cell (World.block_lt_of_cell? _ _ (hz8.out q x hq))]; exact hz8.out q x hq
      have hkA : Blk W10 w.heap.size := hk8.out.of_block (hb.block _ hk8.out.lt)
      clear hb hb10
      replace hv10 := Lib.hid hv10
      replace hA := Lib.hid hA
      replace hfA := Lib.hid hfA
      replace hzA := Lib.hid hzA
      replace hkA := Lib.hid hkA
      have htC := there_of (n := 6) hzA.out hkA.out rfl
      have hrR : (W10.setCells w.heap.size 0 [.int .i64 10, .string X, .int .i64 0, .float .f64 0, .bool false, .slice none 0 0]).rangeAt w.heap.size 0 [.int .i64 10, .string X, .int .i64 0, .float .f64 0, .bool false, .slice none 0 0] := World.rangeAt_setCells_same _ _ _ _ htC
      have hfw : Fr (fun k => k = w.heap.size) W10 (W10.setCells w.heap.size 0 [.int .i64 10, .string X, .int .i64 0, .float .f64 0, .bool false, .slice none 0 0]) := Fr.setCells (S := fun k => k = w.heap.size) (fun _ => rfl) _ _ _ (Fr.refl _ _)
      have hff := hfA.out.trans_new hfw (fun i hi e => by omega)
      have hrs : RS rp w0 (W10.setCells w.heap.size 0 [.int .i64 10, .string X, .int .i64 0, .float .f64 0, .bool false, .slice none 0 0]) g b o n cap s _ many := ⟨hA.out.scan.fr hfw (by omega) (by omega), hA.out.env, hA.out.below.trans (hfw.below hA.out.below.size (fun i hi e => by have := hA.out.below.size; have := hA.out.base; omega)), hA.out.base, hA.out.le⟩
      replace htC := Lib.hid htC
      replace hrR := Lib.hid hrR
      replace hff := Lib.hid hff
      replace hrs := Lib.hid hrs
      clear hfw
      go_wp2_with (first
        | (refine wpList_load_mid rfl 26 _ rfl W8.heap.size 0 rfl _ _ hv10.out Tryz.underlying26 rfl infoVal ?_)
        | (refine wpList_store_mid rfl 26 _ _ rfl w.heap.size 0 _ rfl rfl htC.out infoVal (one6 _ _ _ _ _ _ _ _) ?_))
      refine bodyPost_ret (results_cell1 (v := .agg #[.int .i64 10, .string X, .int .i64 0, .float .f64 0, .bool false, .slice none 0 0]) rfl rfl (run_loadVar_mid (P := Tryz.prog) _ _ 0 26 _ _ hrR.out Tryz.underlying26 rfl infoVal)) rfl ?_
      rw [← hkd.out]
      exact ⟨none, 0, rfl, RV.leaf _ _ _ _ _ _ _ _, hff.out, by rw [show at_ + (1 + u + (len + 2)) = at_ + 1 + u + (len + 2) by omega]; exact hrs.out⟩
    · clear hn
      go_wp2_with fail
      refine hno6.out.mono ?_
      rintro e W7 ⟨rfl, hb⟩
      have h7 := h6.out.grow hb
      have hf7 := hf06.out.trans (fr_of_below (g := g) hb)
      have hz7 : W7.rangeAt w.heap.size 0 [.int .i64 0, .string ⟨#[]⟩, .int .i64 0, .float .f64 0, .bool false, .slice none 0 0] := fun q x hq => by rw [(hb).cell (World.block_lt_of_cell? _ _ (hz6.out q x hq))]; exact hz6.out q x hq
      have hk7 : Blk W7 w.heap.size := hk6.out.of_block ((hb).block _ hk6.out.lt)
      replace h7 := Lib.hid h7
      replace hf7 := Lib.hid hf7
      replace hz7 := Lib.hid hz7
      replace hk7 := Lib.hid hk7
      go_wp2_with fail
      refine (hlg.out W7 hb).mono ?_
      rintro e W8 ⟨rfl, hf8, hs8, hl8⟩
      have h8 := h7.out.next hf8 hs8 hl8
      have hf08 := hf7.out.trans hf8
      have hne6 : ¬ w.heap.size = g := by omega
      have hz8 : W8.rangeAt w.heap.size 0 [.int .i64 0, .string ⟨#[]⟩, .int .i64 0, .float .f64 0, .bool false, .slice none 0 0] := fun q x hq => hf8.cell (hz7.out q x hq) hne6
      have hk8 : Blk W8 w.heap.size := hk7.out.fr hf8 hne6
      obtain ⟨W9, hW9⟩ : ∃ W9, W9 = W8.alloc (.cells #[.int .i64 11, .string X, .int .i64 0, .float .f64 0, .bool false, .slice none 0 0] 26) := ⟨_, rfl⟩
      have hb9 : Below W8.heap.size W8 W9 := by rw [hW9]; exact (Below.refl _ _).alloc (Nat.le_refl _) _
      have hck := leaf_any 11 X 0 0 false (by decide) (by omega) W9
      have hv9 : W9.rangeAt W8.heap.size 0 [.int .i64 11, .string X, .int .i64 0, .float .f64 0, .bool false, .slice none 0 0] := by
        rw [hW9]; intro q x hq; rw [Nat.zero_add, World.cell?_alloc_new]; simpa using hq
      clear hf8 hs8 hl8 hb
      replace h8 := Lib.hid h8
      replace hf08 := Lib.hid hf08
      replace hz8 := Lib.hid hz8
      replace hk8 := Lib.hid hk8
      replace hv9 := Lib.hid hv9
      replace hb9 := Lib.hid hb9
      replace hW9 := Lib.hid hW9
      rw [if_pos (by simpa using ok.out)] at hck
      replace hck := Lib.hid hck
      go_wp2_with fail
      rw [← hW9.out]
      refine hck.out.mono ?_
      rintro e W10 ⟨rfl, hb10⟩
      have hb := hb9.out.trans (hb10.mono hb9.out.size)
      have hv10 : W10.rangeAt W8.heap.size 0 [.int .i64 11, .string X, .int .i64 0, .float .f64 0, .bool false, .slice none 0 0] := fun q x hq => by rw [hb10.cell (World.block_lt_of_cell? _ _ (hv9.out q x hq))]; exact hv9.out q x hq
      have hA := h8.out.grow hb
      have hfA := hf08.out.trans (fr_of_below (g := g) hb)
      have hzA : W10.rangeAt w.heap.size 0 [.int .i64 0, .string ⟨#[]⟩, .int .i64 0, .float .f64 0, .bool false, .slice none 0 0] := fun q x hq => by rw [hb.cell (World.block_lt_of_cell? _ _ (hz8.out q x hq))]; exact hz8.out q x hq
      have hkA : Blk W10 w.heap.size := hk8.out.of_block (hb.block _ hk8.out.lt)
      clear hb hb10
      replace hv10 := Lib.hid hv10
      replace hA := Lib.hid hA
      replace hfA := Lib.hid hfA
      replace hzA := Lib.hid hzA
      replace hkA := Lib.hid hkA
      have htC := there_of (n := 6) hzA.out hkA.out rfl
      have hrR : (W10.setCells w.heap.size 0 [.int .i64 11, .string X, .int .i64 0, .float .f64 0, .bool false, .slice none 0 0]).rangeAt w.heap.size 0 [.int .i64 11, .string X, .int .i64 0, .float .f64 0, .bool false, .slice none 0 0] := World.rangeAt_setCells_same _ _ _ _ htC
      have hfw : Fr (fun k => k = w.heap.size) W10 (W10.setCells w.heap.size 0 [.int .i64 11, .string X, .int .i64 0, .float .f64 0, .bool false, .slice none 0 0]) := Fr.setCells (S := fun k => k = w.heap.size) (fun _ => rfl) _ _ _ (Fr.refl _ _)
      have hff := hfA.out.trans_new hfw (fun i hi e => by omega)
      have hrs : RS rp w0 (W10.setCells w.heap.size 0 [.int .i64 11, .string X, .int .i64 0, .float .f64 0, .bool false, .slice none 0 0]) g b o n cap s _ many := ⟨hA.out.scan.fr hfw (by omega) (by omega), hA.out.env, hA.out.below.trans (hfw.below hA.out.below.size (fun i hi e => by have := hA.out.below.size; have := hA.out.base; omega)), hA.out.base, hA.out.le⟩
      replace htC := Lib.hid htC
      replace hrR := Lib.hid hrR
      replace hff := Lib.hid hff
      replace hrs := Lib.hid hrs
      clear hfw
      go_wp2_with (first
        | (refine wpList_load_mid rfl 26 _ rfl W8.heap.size 0 rfl _ _ hv10.out Tryz.underlying26 rfl infoVal ?_)
        | (refine wpList_store_mid rfl 26 _ _ rfl w.heap.size 0 _ rfl rfl htC.out infoVal (one6 _ _ _ _ _ _ _ _) ?_))
      refine bodyPost_ret (results_cell1 (v := .agg #[.int .i64 11, .string X, .int .i64 0, .float .f64 0, .bool false, .slice none 0 0]) rfl rfl (run_loadVar_mid (P := Tryz.prog) _ _ 0 26 _ _ hrR.out Tryz.underlying26 rfl infoVal)) rfl ?_
      rw [← hkd.out]
      exact ⟨none, 0, rfl, RV.leaf _ _ _ _ _ _ _ _, hff.out, by rw [show at_ + (1 + u + (len + 2)) = at_ + 1 + u + (len + 2) by omega]; exact hrs.out⟩
  · rw [decide_eq_false ht] at htl
    replace ht := Lib.hid ht
    rcases hk with rfl | rfl | rfl
    · clear hn
      go_wp2_with fail
      refine hno6.out.mono ?_
      rintro e W7 ⟨rfl, hb⟩
      have h7 := h6.out.grow hb
      have hf7 := hf06.out.trans (fr_of_below (g := g) hb)
      have hz7 : W7.rangeAt w.heap.size 0 [.int .i64 0, .string ⟨#[]⟩, .int .i64 0, .float .f64 0, .bool false, .slice none 0 0] := fun q x hq => by rw [(hb).cell (World.block_lt_of_cell? _ _ (hz6.out q x hq))]; exact hz6.out q x hq
      have hk7 : Blk W7 w.heap.size := hk6.out.of_block ((hb).block _ hk6.out.lt)
      replace h7 := Lib.hid h7
      replace hf7 := Lib.hid hf7
      replace hz7 := Lib.hid hz7
      replace hk7 := Lib.hid hk7
      go_wp2_with fail
      refine (hlg.out W7 hb).mono ?_
      rintro e W8 ⟨rfl, hf8, hs8, hl8⟩
      have h8 := h7.out.next hf8 hs8 hl8
      have hf08 := hf7.out.trans hf8
      have hne6 : ¬ w.heap.size = g := by omega
      have hz8 : W8.rangeAt w.heap.size 0 [.int .i64 0, .string ⟨#[]⟩, .int .i64 0, .float .f64 0, .bool false, .slice none 0 0] := fun q x hq => hf8.cell (hz7.out q x hq) hne6
      have hk8 : Blk W8 w.heap.size := hk7.out.fr hf8 hne6
      obtain ⟨W9, hW9⟩ : ∃ W9, W9 = W8.alloc (.cells #[.int .i64 4, .string X, .int .i64 0, .float .f64 0, .bool false, .slice none 0 0] 26) := ⟨_, rfl⟩
      have hb9 : Below W8.heap.size W8 W9 := by rw [hW9]; exact (Below.refl _ _).alloc (Nat.le_refl _) _
      have hck := leaf_any 4 X 0 0 false (by decide) (by omega) W9
      have hv9 : W9.rangeAt W8.heap.size 0 [.int .i64 4, .string X, .int .i64 0, .float .f64 0, .bool false, .slice none 0 0] := by
        rw [hW9]; intro q x hq; rw [Nat.zero_add, World.cell?_alloc_new]; simpa using hq
      clear hf8 hs8 hl8 hb
      replace h8 := Lib.hid h8
      replace hf08 := Lib.hid hf08
      replace hz8 := Lib.hid hz8
      replace hk8 := Lib.hid hk8
      replace hv9 := Lib.hid hv9
      replace hb9 := Lib.hid hb9
      replace hW9 := Lib.hid hW9
      rw [if_pos (by simpa using ok.out)] at hck
      replace hck := Lib.hid hck
      go_wp2_with fail
      rw [← hW9.out]
      refine hck.out.mono ?_
      rintro e W10 ⟨rfl, hb10⟩
      have hb := hb9.out.trans (hb10.mono hb9.out.size)
      have hv10 : W10.rangeAt W8.heap.size 0 [.int .i64 4, .string X, .int .i64 0, .float .f64 0, .bool false, .slice none 0 0] := fun q x hq => by rw [hb10.cell (World.block_lt_of_cell? _ _ (hv9.out q x hq))]; exact hv9.out q x hq
      have hA := h8.out.grow hb
      have hfA := hf08.out.trans (fr_of_below (g := g) hb)
      have hzA : W10.rangeAt w.heap.size 0 [.int .i64 0, .string ⟨#[]⟩, .int .i64 0, .float .f64 0, .bool false, .slice none 0 0] := fun q x hq => by rw [hb.cell (World.block_lt_of_cell? _ _ (hz8.out q x hq))]; exact hz8.out q x hq
      have hkA : Blk W10 w.heap.size := hk8.out.of_block (hb.block _ hk8.out.lt)
      clear hb hb10
      replace hv10 := Lib.hid hv10
      replace hA := Lib.hid hA
      replace hfA := Lib.hid hfA
      replace hzA := Lib.hid hzA
      replace hkA := Lib.hid hkA
      have htC := there_of (n := 6) hzA.out hkA.out rfl
      have hrR : (W10.setCells w.heap.size 0 [.int .i64 4, .string X, .int .i64 0, .float .f64 0, .bool false, .slice none 0 0]).rangeAt w.heap.size 0 [.int .i64 4, .string X, .int .i64 0, .float .f64 0, .bool false, .slice none 0 0] := World.rangeAt_setCells_same _ _ _ _ htC
      have hfw : Fr (fun k => k = w.heap.size) W10 (W10.setCells w.heap.size 0 [.int .i64 4, .string X, .int .i64 0, .float .f64 0, .bool false, .slice none 0 0]) := Fr.setCells (S := fun k => k = w.heap.size) (fun _ => rfl) _ _ _ (Fr.refl _ _)
      have hff := hfA.out.trans_new hfw (fun i hi e => by omega)
      have hrs : RS rp w0 (W10.setCells w.heap.size 0 [.int .i64 4, .string X, .int .i64 0, .float .f64 0, .bool false, .slice none 0 0]) g b o n cap s _ many := ⟨hA.out.scan.fr hfw (by omega) (by omega), hA.out.env, hA.out.below.trans (hfw.below hA.out.below.size (fun i hi e => by have := hA.out.below.size; have := hA.out.base; omega)), hA.out.base, hA.out.le⟩
      replace htC := Lib.hid htC
      replace hrR := Lib.hid hrR
      replace hff := Lib.hid hff
      replace hrs := Lib.hid hrs
      clear hfw
      go_wp2_with (first
        | (refine wpList_load_mid rfl 26 _ rfl W8.heap.size 0 rfl _ _ hv10.out Tryz.underlying26 rfl infoVal ?_)
        | (refine wpList_store_mid rfl 26 _ _ rfl w.heap.size 0 _ rfl rfl htC.out infoVal (one6 _ _ _ _ _ _ _ _) ?_))
      refine bodyPost_ret (results_cell1 (v := .agg #[.int .i64 4, .string X, .int .i64 0, .float .f64 0, .bool false, .slice none 0 0]) rfl rfl (run_loadVar_mid (P := Tryz.prog) _ _ 0 26 _ _ hrR.out Tryz.underlying26 rfl infoVal)) rfl ?_
      rw [← hkd.out]
      exact ⟨none, 0, rfl, RV.leaf _ _ _ _ _ _ _ _, hff.out, by rw [show at_ + (1 + u + (len + 2)) = at_ + 1 + u + (len + 2) by omega]; exact hrs.out⟩
    · clear hn
      go_wp2_with fail
      refine hno6.out.mono ?_
      rintro e W7 ⟨rfl, hb⟩
      have h7 := h6.out.grow hb
      have hf7 := hf06.out.trans (fr_of_below (g := g) hb)
      have hz7 : W7.rangeAt w.heap.size 0 [.int .i64 0, .string ⟨#[]⟩, .int .i64 0, .float .f64 0, .bool false, .slice none 0 0] := fun q x hq => by rw [(hb).cell (World.block_lt_of_cell? _ _ (hz6.out q x hq))]; exact hz6.out q x hq
      have hk7 : Blk W7 w.heap.size := hk6.out.of_block ((hb).block _ hk6.out.lt)
      replace h7 := Lib.hid h7
      replace hf7 := Lib.hid hf7
      replace hz7 := Lib.hid hz7
      replace hk7 := Lib.hid hk7
      go_wp2_with fail
      refine (hlg.out W7 hb).mono ?_
      rintro e W8 ⟨rfl, hf8, hs8, hl8⟩
      have h8 := h7.out.next hf8 hs8 hl8
      have hf08 := hf7.out.trans hf8
      have hne6 : ¬ w.heap.size = g := by omega
      have hz8 : W8.rangeAt w.heap.size 0 [.int .i64 0, .string ⟨#[]⟩, .int .i64 0, .float .f64 0, .bool false, .slice none 0 0] := fun q x hq => hf8.cell (hz7.out q x hq) hne6
      have hk8 : Blk W8 w.heap.size := hk7.out.fr hf8 hne6
      obtain ⟨W9, hW9⟩ : ∃ W9, W9 = W8.alloc (.cells #[.int .i64 10, .string X, .int .i64 0, .float .f64 0, .bool false, .slice none 0 0] 26) := ⟨_, rfl⟩
      have hb9 : Below W8.heap.size W8 W9 := by rw [hW9]; exact (Below.refl _ _).alloc (Nat.le_refl _) _
      have hck := leaf_any 10 X 0 0 false (by decide) (by omega) W9
      have hv9 : W9.rangeAt W8.heap.size 0 [.int .i64 10, .string X, .int .i64 0, .float .f64 0, .bool false, .slice none 0 0] := by
        rw [hW9]; intro q x hq; rw [Nat.zero_add, World.cell?_alloc_new]; simpa using hq
      clear hf8 hs8 hl8 hb
      replace h8 := Lib.hid h8
      replace hf08 := Lib.hid hf08
      replace hz8 := Lib.hid hz8
      replace hk8 := Lib.hid hk8
      replace hv9 := Lib.hid hv9
      replace hb9 := Lib.hid hb9
      replace hW9 := Lib.hid hW9
      rw [if_pos (by simpa using ok.out)] at hck
      replace hck := Lib.hid hck
      go_wp2_with fail
      rw [← hW9.out]
      refine hck.out.mono ?_
      rintro e W10 ⟨rfl, hb10⟩
      have hb := hb9.out.trans (hb10.mono hb9.out.size)
      have hv10 : W10.rangeAt W8.heap.size 0 [.int .i64 10, .string X, .int .i64 0, .float .f64 0, .bool false, .slice none 0 0] := fun q x hq => by rw [hb10.cell (World.block_lt_of_cell? _ _ (hv9.out q x hq))]; exact hv9.out q x hq
      have hA := h8.out.grow hb
      have hfA := hf08.out.trans (fr_of_below (g := g) hb)
      have hzA : W10.rangeAt w.heap.size 0 [.int .i64 0, .string ⟨#[]⟩, .int .i64 0, .float .f64 0, .bool false, .slice none 0 0] := fun q x hq => by rw [hb.cell (World.block_lt_of_cell? _ _ (hz8.out q x hq))]; exact hz8.out q x hq
      have hkA : Blk W10 w.heap.size := hk8.out.of_block (hb.block _ hk8.out.lt)
      clear hb hb10
      replace hv10 := Lib.hid hv10
      replace hA := Lib.hid hA
      replace hfA := Lib.hid hfA
      replace hzA := Lib.hid hzA
      replace hkA := Lib.hid hkA
      have htC := there_of (n := 6) hzA.out hkA.out rfl
      have hrR : (W10.setCells w.heap.size 0 [.int .i64 10, .string X, .int .i64 0, .float .f64 0, .bool false, .slice none 0 0]).rangeAt w.heap.size 0 [.int .i64 10, .string X, .int .i64 0, .float .f64 0, .bool false, .slice none 0 0] := World.rangeAt_setCells_same _ _ _ _ htC
      have hfw : Fr (fun k => k = w.heap.size) W10 (W10.setCells w.heap.size 0 [.int .i64 10, .string X, .int .i64 0, .float .f64 0, .bool false, .slice none 0 0]) := Fr.setCells (S := fun k => k = w.heap.size) (fun _ => rfl) _ _ _ (Fr.refl _ _)
      have hff := hfA.out.trans_new hfw (fun i hi e => by omega)
      have hrs : RS rp w0 (W10.setCells w.heap.size 0 [.int .i64 10, .string X, .int .i64 0, .float .f64 0, .bool false, .slice none 0 0]) g b o n cap s _ many := ⟨hA.out.scan.fr hfw (by omega) (by omega), hA.out.env, hA.out.below.trans (hfw.below hA.out.below.size (fun i hi e => by have := hA.out.below.size; have := hA.out.base; omega)), hA.out.base, hA.out.le⟩
      replace htC := Lib.hid htC
      replace hrR := Lib.hid hrR
      replace hff := Lib.hid hff
      replace hrs := Lib.hid hrs
      clear hfw
      go_wp2_with (first
        | (refine wpList_load_mid rfl 26 _ rfl W8.heap.size 0 rfl _ _ hv10.out Tryz.underlying26 rfl infoVal ?_)
        | (refine wpList_store_mid rfl 26 _ _ rfl w.heap.size 0 _ rfl rfl htC.out infoVal (one6 _ _ _ _ _ _ _ _) ?_))
      refine bodyPost_ret (results_cell1 (v := .agg #[.int .i64 10, .string X, .int .i64 0, .float .f64 0, .bool false, .slice none 0 0]) rfl rfl (run_loadVar_mid (P := Tryz.prog) _ _ 0 26 _ _ hrR.out Tryz.underlying26 rfl infoVal)) rfl ?_
      rw [← hkd.out]
      exact ⟨none, 0, rfl, RV.leaf _ _ _ _ _ _ _ _, hff.out, by rw [show at_ + (1 + u + (len + 2)) = at_ + 1 + u + (len + 2) by omega]; exact hrs.out⟩
    · clear hn
      go_wp2_with fail
      refine hno6.out.mono ?_
      rintro e W7 ⟨rfl, hb⟩
      have h7 := h6.out.grow hb
      have hf7 := hf06.out.trans (fr_of_below (g := g) hb)
      have hz7 : W7.rangeAt w.heap.size 0 [.int .i64 0, .string ⟨#[]⟩, .int .i64 0, .float .f64 0, .bool false, .slice none 0 0] := fun q x hq => by rw [(hb).cell (World.block_lt_of_cell? _ _ (hz6.out q x hq))]; exact hz6.out q x hq
      have hk7 : Blk W7 w.heap.size := hk6.out.of_block ((hb).block _ hk6.out.lt)
      replace h7 := Lib.hid h7
      replace hf7 := Lib.hid hf7
      replace hz7 := Lib.hid hz7
      replace hk7 := Lib.hid hk7
      go_wp2_with fail
      refine (hlg.out W7 hb).mono ?_
      rintro e W8 ⟨rfl, hf8, hs8, hl8⟩
      have h8 := h7.out.next hf8 hs8 hl8
      have hf08 := hf7.out.trans hf8
      have hne6 : ¬ w.heap.size = g := by omega
      have hz8 : W8.rangeAt w.heap.size 0 [.int .i64 0, .string ⟨#[]⟩, .int .i64 0, .float .f64 0, .bool false, .slice none 0 0] := fun q x hq => hf8.cell (hz7.out q x hq) hne6
      have hk8 : Blk W8 w.heap.size := hk7.out.fr hf8 hne6
      obtain ⟨W9, hW9⟩ : ∃ W9, W9 = W8.alloc (.cells #[.int .i64 11, .string X, .int .i64 0, .float .f64 0, .bool false, .slice none 0 0] 26) := ⟨_, rfl⟩
      have hb9 : Below W8.heap.size W8 W9 := by rw [hW9]; exact (Below.refl _ _).alloc (Nat.le_refl _) _
      have hck := leaf_any 11 X 0 0 false (by decide) (by omega) W9
      have hv9 : W9.rangeAt W8.heap.size 0 [.int .i64 11, .string X, .int .i64 0, .float .f64 0, .bool false, .slice none 0 0] := by
        rw [hW9]; intro q x hq; rw [Nat.zero_add, World.cell?_alloc_new]; simpa using hq
      clear hf8 hs8 hl8 hb
      replace h8 := Lib.hid h8
      replace hf08 := Lib.hid hf08
      replace hz8 := Lib.hid hz8
      replace hk8 := Lib.hid hk8
      replace hv9 := Lib.hid hv9
      replace hb9 := Lib.hid hb9
      replace hW9 := Lib.hid hW9
      rw [if_pos (by simpa using ok.out)] at hck
      replace hck := Lib.hid hck
      go_wp2_with fail
      rw [← hW9.out]
      refine hck.out.mono ?_
      rintro e W10 ⟨rfl, hb10⟩
      have hb := hb9.out.trans (hb10.mono hb9.out.size)
      have hv10 : W10.rangeAt W8.heap.size 0 [.int .i64 11, .string X, .int .i64 0, .float .f64 0, .bool false, .slice none 0 0] := fun q x hq => by rw [hb10.cell (World.block_lt_of_cell? _ _ (hv9.out q x hq))]; exact hv9.out q x hq
      have hA := h8.out.grow hb
      have hfA := hf08.out.trans (fr_of_below (g := g) hb)
      have hzA : W10.rangeAt w.heap.size 0 [.int .i64 0, .string ⟨#[]⟩, .int .i64 0, .float .f64 0, .bool false, .slice none 0 0] := fun q x hq => by rw [hb.cell (World.block_lt_of_cell? _ _ (hz8.out q x hq))]; exact hz8.out q x hq
      have hkA : Blk W10 w.heap.size := hk8.out.of_block (hb.block _ hk8.out.lt)
      clear hb hb10
      replace hv10 := Lib.hid hv10
      replace hA := Lib.hid hA
      replace hfA := Lib.hid hfA
      replace hzA := Lib.hid hzA
      replace hkA := Lib.hid hkA
      have htC := there_of (n := 6) hzA.out hkA.out rfl
      have hrR : (W10.setCells w.heap.size 0 [.int .i64 11, .string X, .int .i64 0, .float .f64 0, .bool false, .slice none 0 0]).rangeAt w.heap.size 0 [.int .i64 11, .string X, .int .i64 0, .float .f64 0, .bool false, .slice none 0 0] := World.rangeAt_setCells_same _ _ _ _ htC
      have hfw : Fr (fun k => k = w.heap.size) W10 (W10.setCells w.heap.size 0 [.int .i64 11, .string X, .int .i64 0, .float .f64 0, .bool false, .slice none 0 0]) := Fr.setCells (S := fun k => k = w.heap.size) (fun _ => rfl) _ _ _ (Fr.refl _ _)
      have hff := hfA.out.trans_new hfw (fun i hi e => by omega)
      have hrs : RS rp w0 (W10.setCells w.heap.size 0 [.int .i64 11, .string X, .int .i64 0, .float .f64 0, .bool false, .slice none 0 0]) g b o n cap s _ many := ⟨hA.out.scan.fr hfw (by omega) (by omega), hA.out.env, hA.out.below.trans (hfw.below hA.out.below.size (fun i hi e => by have := hA.out.below.size; have := hA.out.base; omega)), hA.out.base, hA.out.le⟩
      replace htC := Lib.hid htC
      replace hrR := Lib.hid hrR
      replace hff := Lib.hid hff
      replace hrs := Lib.hid hrs
      clear hfw
      go_wp2_with (first
        | (refine wpList_load_mid rfl 26 _ rfl W8.heap.size 0 rfl _ _ hv10.out Tryz.underlying26 rfl infoVal ?_)
        | (refine wpList_store_mid rfl 26 _ _ rfl w.heap.size 0 _ rfl rfl htC.out infoVal (one6 _ _ _ _ _ _ _ _) ?_))
      refine bodyPost_ret (results_cell1 (v := .agg #[.int .i64 11, .string X, .int .i64 0, .float .f64 0, .bool false, .slice none 0 0]) rfl rfl (run_loadVar_mid (P := Tryz.prog) _ _ 0 26 _ _ hrR.out Tryz.underlying26 rfl infoVal)) rfl ?_
      rw [← hkd.out]
      exact ⟨none, 0, rfl, RV.leaf _ _ _ _ _ _ _ _, hff.out, by rw [show at_ + (1 + u + (len + 2)) = at_ + 1 + u + (len + 2) by omega]; exact hrs.out⟩
set_option maxRecDepth 100000 in
set_option maxHeartbeats 6400000 in
theorem value_lbad {rp : Rp} {w0 w : World} {g b o n cap at_ many u len : Nat} {s : ByteArray} {d : Int} {c : UInt8} {t L x : List UInt8} (h : RS rp w0 w g b o n cap s at_ many) (hL : s.data.toList.drop at_ = c :: L)
    (hk : kindR c = 4 ∨ kindR c = 10 ∨ kindR c = 11) (hl : lineS L = .got (t, u)) (hn : ¬ (t = [45, 49] ∧ (kindR c = 4 ∨ kindR c = 5))) (hm : numS t 4096 = some len) (hlo : longS (L.drop u) len = .got x) (ok : ¬ okV (leafV (kindR c) ⟨x.toArray⟩ 0 0 false) = true) :
    Calls Tryz.prog 46 #[.pointer (some ⟨g, 0, none⟩), .int .i64 d] w fun e w' => e = stopE 51 ∧ Fr (fun k => k = g) w w' := by
  have hle : len ≤ 4096 := numS_le hm
  obtain ⟨kd, hkd⟩ : ∃ kd, kd = kindR c := ⟨_, rfl⟩
  rw [← hkd] at hk hn
  have hlen := line_len hl
  have hts : (⟨t.toArray⟩ : ByteArray).size ≤ 1000000 := by
    rw [size_r]; show t.length ≤ _; omega
  have htl : ((⟨t.toArray⟩ : ByteArray).toList == [45, 49]) = decide (t = [45, 49]) := by
    rw [ByteArray.toList_eq]
    show (t == [45, 49]) = _
    rw [Bool.eq_iff_iff, beq_iff_eq, decide_eq_true_eq]
  replace hl := Lib.hid hl
  have hlt : at_ < n := by
    rcases Nat.lt_or_ge at_ n with hh | hh
    · exact hh
    · rw [List.drop_of_length_le (by rw [← size_r, h.scan.size]; exact hh)] at hL; cases hL
  have hai : ¬ (n : Int) ≤ (at_ : Int) := by omega
  have hai2 : (at_ : Int) < (n : Int) := by omega
  have hbig := h.scan.big
  obtain ⟨hcel, hL2⟩ : w.cell? ⟨b, o + at_, none⟩ = some (.int .u8 (c.toNat : Int)) ∧ s.data.toList.drop (at_ + 1) = L := by
    have hz := h.scan.size
    have h1 := h.scan.bytes at_ (by omega)
    have e1 := Lib.data_getElem? s at_ (by omega)
    have e2 : s.data.toList[at_]? = some c := by
      have := congrArg (·[0]?) hL
      simp only [List.getElem?_drop, Nat.add_zero] at this
      exact this
    rw [e1] at e2
    rw [h1, Option.some.inj e2]
    refine ⟨rfl, ?_⟩
    rw [← List.drop_drop, hL]; rfl
  have hcb := World.block_lt_of_cell? _ _ hcel
  replace hcb : b < w.heap.size := hcb
  replace hL := Lib.hid hL
  replace hL2 := Lib.hid hL2
  replace hcel := Lib.hid hcel
  obtain ⟨W1, hW1⟩ : ∃ W1, W1 = w.alloc (.cells #[.int .i64 0, .string ⟨#[]⟩, .int .i64 0, .float .f64 0, .bool false, .slice none 0 0] 26) := ⟨_, rfl⟩
  have hb1 : Below w.heap.size w W1 := by rw [hW1]; exact (Below.refl _ _).alloc (Nat.le_refl _) _
  have h1 := h.grow hb1
  have hz1 : W1.rangeAt w.heap.size 0 [.int .i64 0, .string ⟨#[]⟩, .int .i64 0, .float .f64 0, .bool false, .slice none 0 0] := by
    rw [hW1]; intro q x hq; rw [Nat.zero_add, World.cell?_alloc_new]; simpa using hq
  have hk1 : Blk W1 w.heap.size := by rw [hW1]; exact Blk.new _ _ _
  have c0 := h1.scan.c0
  have c1 := h1.scan.c1
  have hgl : g < W1.heap.size := h1.scan.blk.lt
  have hgw : g < w.heap.size := h.scan.blk.lt
  replace hW1 := Lib.hid hW1
  replace hb1 := Lib.hid hb1
  replace h1 := Lib.hid h1
  replace hz1 := Lib.hid hz1
  replace hk1 := Lib.hid hk1
  replace h := Lib.hid h
  go_enter Tryz.func46, Tryz.ntmps46
  go_wp2_with fail
  rw [← hW1.out]
  refine wp_region_grow (by kernel_rfl) (by kernel_rfl) ?_
  repeat (go_big_quiet_step ((fail)))
  refine wpQuiet_nil ?_
  rintro _ ⟨xq, rfl⟩
  have hS := grow_below W1 xq
  obtain ⟨W2, hW2⟩ : ∃ W2, W2 = grow W1 xq := ⟨_, rfl⟩
  rw [← hW2] at hS ⊢
  replace hW2 := Lib.hid hW2
  have h2 := h1.out.grow hS
  have hb2 : Below w.heap.size w W2 := hb1.out.trans (hS.mono hb1.out.size)
  have hz2 : W2.rangeAt w.heap.size 0 [.int .i64 0, .string ⟨#[]⟩, .int .i64 0, .float .f64 0, .bool false, .slice none 0 0] := fun q x hq => by rw [hS.cell (World.block_lt_of_cell? _ _ (hz1.out q x hq))]; exact hz1.out q x hq
  have hk2 : Blk W2 w.heap.size := hk1.out.of_block (hS.block _ hk1.out.lt)
  clear c0 c1 hS
  replace h2 := Lib.hid h2
  replace hb2 := Lib.hid hb2
  replace hz2 := Lib.hid hz2
  replace hk2 := Lib.hid hk2
  have c0 := h2.out.scan.c0
  have c1 := h2.out.scan.c1
  have cc := (hb2.out.cell (p := ⟨b, o + at_, none⟩) hcb).trans hcel.out
  have hgl2 : g < W2.heap.size := h2.out.scan.blk.lt
  have hbl2 : b < W2.heap.size := Nat.lt_of_lt_of_le hcb hb2.out.size
  go_wp2_with fail
  refine wp_region_grow (by kernel_rfl) (by kernel_rfl) ?_
  repeat (go_big_quiet_step ((go_at_call 63; (with_reducible exact quiet_grow (kinds_grow _ _)))))
  refine wpQuiet_nil ?_
  rintro _ ⟨xq, rfl⟩
  have hS := grow_below W2 xq
  obtain ⟨W3, hW3⟩ : ∃ W3, W3 = grow W2 xq := ⟨_, rfl⟩
  rw [← hW3] at hS ⊢
  replace hW3 := Lib.hid hW3
  have h3 := h2.out.grow hS
  have hb3 : Below w.heap.size w W3 := hb2.out.trans (hS.mono hb2.out.size)
  have hz3 : W3.rangeAt w.heap.size 0 [.int .i64 0, .string ⟨#[]⟩, .int .i64 0, .float .f64 0, .bool false, .slice none 0 0] := fun q x hq => by rw [hS.cell (World.block_lt_of_cell? _ _ (hz2.out q x hq))]; exact hz2.out q x hq
  have hk3 : Blk W3 w.heap.size := hk2.out.of_block (hS.block _ hk2.out.lt)
  clear c0 c1 hS cc
  replace h3 := Lib.hid h3
  replace hb3 := Lib.hid hb3
  replace hz3 := Lib.hid hz3
  replace hk3 := Lib.hid hk3
  rw [← hkd]
  have hk0 : ((kd : Int) == 0) = false := by simp; omega
  replace hkd := Lib.hid hkd
  have c1 := h3.out.scan.c1
  have fz := h3.out.scan.blk.frz 1 none
  go_wp2_with fail
  have e4 : (at_ : Int) + 1 = ((at_ + 1 : Nat) : Int) := by omega
  rw [e4]
  have hf4 : Fr (fun k => k = g) w (W3.setCell ⟨g, 1, none⟩ (.int .i64 ((at_ + 1 : Nat) : Int))) := Fr.setCell (S := fun k => k = g) (fr_of_below hb3.out) (fun _ => rfl) _
  have h4 : RS rp w0 (W3.setCell ⟨g, 1, none⟩ (.int .i64 ((at_ + 1 : Nat) : Int))) g b o n cap s (at_ + 1) many := h3.out.next (Fr.setCell (S := fun k => k = g) (Fr.refl _ _) (fun _ => rfl) _) (h3.out.scan.move _) (by omega)
  have hz4 : (W3.setCell ⟨g, 1, none⟩ (.int .i64 ((at_ + 1 : Nat) : Int))).rangeAt w.heap.size 0 [.int .i64 0, .string ⟨#[]⟩, .int .i64 0, .float .f64 0, .bool false, .slice none 0 0] := fun q x hq => by
    rw [cell_set_ne (fun e => by have := congrArg Addr.block e; simp at this; omega)]; exact hz3.out q x hq
  have hk4 : Blk (W3.setCell ⟨g, 1, none⟩ (.int .i64 ((at_ + 1 : Nat) : Int))) w.heap.size := hk3.out.setCell _ _
  generalize W3.setCell ⟨g, 1, none⟩ (.int .i64 ((at_ + 1 : Nat) : Int)) = W4 at *
  clear c1 fz e4
  replace h4 := Lib.hid h4
  replace hf4 := Lib.hid hf4
  replace hz4 := Lib.hid hz4
  replace hk4 := Lib.hid hk4
  refine (line_got h4.out.scan h4.out.le (by rw [hL2.out]; exact hl.out)).mono ?_
  rintro e W6 ⟨rfl, hf6, hs6, hle6⟩
  have h6 := h4.out.next hf6 hs6 hle6
  have hf06 := hf4.out.trans hf6
  have hne6 : ¬ w.heap.size = g := by omega
  have hz6 : W6.rangeAt w.heap.size 0 [.int .i64 0, .string ⟨#[]⟩, .int .i64 0, .float .f64 0, .bool false, .slice none 0 0] := fun q x hq => hf6.cell (hz4.out q x hq) hne6
  have hk6 : Blk W6 w.heap.size := hk4.out.fr hf6 hne6
  clear hf6 hs6 hle6
  replace h6 := Lib.hid h6
  replace hf06 := Lib.hid hf06
  replace hz6 := Lib.hid hz6
  replace hk6 := Lib.hid hk6
  have hno6 := number_got (w := W6) (t := ⟨t.toArray⟩) (most := 4096) hts (by omega) h6.out.nums hm
  have hxl : x.length ≤ 4096 := by
    have := long_len hlo; omega
  have hlg : ∀ W, Below W6.heap.size W6 W → Calls Tryz.prog 67 #[.pointer (some ⟨g, 0, none⟩), .int .i64 (len : Int)] W fun e w' => e = .returned (.string ⟨x.toArray⟩) ∧ Fr (fun k => k = g) W w' ∧ Scan w' g b o n cap s (at_ + 1 + u + (len + 2)) many ∧ at_ + 1 + u + (len + 2) ≤ n := fun W hW =>
    long_got (h6.out.grow hW).scan (h6.out.grow hW).le (by omega) (by rw [← List.drop_drop, hL2.out]; exact hlo)
  have hX : (⟨x.toArray⟩ : ByteArray).size ≤ 4096 := by rw [size_r]; exact hxl
  replace hno6 := Lib.hid hno6
  replace hlg := Lib.hid hlg
  clear hm hlo hlen hts hxl
  generalize (⟨t.toArray⟩ : ByteArray) = T at *
  rw [← hkd.out] at ok
  generalize (⟨x.toArray⟩ : ByteArray) = X at *
  replace ok := Lib.hid ok
  by_cases ht : t = [45, 49]
  · rw [decide_eq_true ht] at htl
    rcases hk with rfl | rfl | rfl
    · exact absurd ⟨ht, .inl rfl⟩ hn
    · clear hn
      go_wp2_with fail
      refine hno6.out.mono ?_
      rintro e W7 ⟨rfl, hb⟩
      have h7 := h6.out.grow hb
      have hf7 := hf06.out.trans (fr_of_below (g := g) hb)
      have hz7 : W7.rangeAt w.heap.size 0 [.int .i64 0, .string ⟨#[]⟩, .int .i64 0, .float .f64 0, .bool false, .slice none 0 0] := fun q x hq => by rw [(hb).cell (World.block_lt_of_cell? _ _ (hz6.out q x hq))]; exact hz6.out q x hq
      have hk7 : Blk W7 w.heap.size := hk6.out.of_block ((hb).block _ hk6.out.lt)
      replace h7 := Lib.hid h7
      replace hf7 := Lib.hid hf7
      replace hz7 := Lib.hid hz7
      replace hk7 := Lib.hid hk7
      go_wp2_with fail
      refine (hlg.out W7 hb).mono ?_
      rintro e W8 ⟨rfl, hf8, hs8, hl8⟩
      have h8 := h7.out.next hf8 hs8 hl8
      have hf08 := hf7.out.trans hf8
      have hne6 : ¬ w.heap.size = g := by omega
      have hz8 : W8.rangeAt w.heap.size 0 [.int .i64 0, .string ⟨#[]⟩, .int .i64 0, .float .f64 0, .bool false, .slice none 0 0] := fun q x hq => hf8.cell (hz7.out q x hq) hne6
      have hk8 : Blk W8 w.heap.size := hk7.out.fr hf8 hne6
      obtain ⟨W9, hW9⟩ : ∃ W9, W9 = W8.alloc (.cells #[.int .i64 10, .string X, .int .i64 0, .float .f64 0, .bool false, .slice none 0 0] 26) := ⟨_, rfl⟩
      have hb9 : Below W8.heap.size W8 W9 := by rw [hW9]; exact (Below.refl _ _).alloc (Nat.le_refl _) _
      have hck := leaf_any 10 X 0 0 false (by decide) (by omega) W9
      have hv9 : W9.rangeAt W8.heap.size 0 [.int .i64 10, .string X, .int .i64 0, .float .f64 0, .bool false, .slice none 0 0] := by
        rw [hW9]; intro q x hq; rw [Nat.zero_add, World.cell?_alloc_new]; simpa using hq
      clear hf8 hs8 hl8 hb
      replace h8 := Lib.hid h8
      replace hf08 := Lib.hid hf08
      replace hz8 := Lib.hid hz8
      replace hk8 := Lib.hid hk8
      replace hv9 := Lib.hid hv9
      replace hb9 := Lib.hid hb9
      replace hW9 := Lib.hid hW9
      rw [if_neg (by simpa using ok.out)] at hck
      replace hck := Lib.hid hck
      go_wp2_with fail
      rw [← hW9.out]
      refine hck.out.mono ?_
      rintro e W10 ⟨rfl, hb10⟩
      have hb := hb9.out.trans (hb10.mono hb9.out.size)
      have hfA := hf08.out.trans (fr_of_below (g := g) hb)
      clear hb hb10
      replace hfA := Lib.hid hfA
      go_wp2_with fail
      refine (fail_any _).mono ?_
      rintro e w' ⟨rfl, hww⟩
      obtain rfl := hww.symm
      exact ⟨rfl, rfl, hfA.out⟩
    · clear hn
      go_wp2_with fail
      refine hno6.out.mono ?_
      rintro e W7 ⟨rfl, hb⟩
      have h7 := h6.out.grow hb
      have hf7 := hf06.out.trans (fr_of_below (g := g) hb)
      have hz7 : W7.rangeAt w.heap.size 0 [.int .i64 0, .string ⟨#[]⟩, .int .i64 0, .float .f64 0, .bool false, .slice none 0 0] := fun q x hq => by rw [(hb).cell (World.block_lt_of_cell? _ _ (hz6.out q x hq))]; exact hz6.out q x hq
      have hk7 : Blk W7 w.heap.size := hk6.out.of_block ((hb).block _ hk6.out.lt)
      replace h7 := Lib.hid h7
      replace hf7 := Lib.hid hf7
      replace hz7 := Lib.hid hz7
      replace hk7 := Lib.hid hk7
      go_wp2_with fail
      refine (hlg.out W7 hb).mono ?_
      rintro e W8 ⟨rfl, hf8, hs8, hl8⟩
      have h8 := h7.out.next hf8 hs8 hl8
      have hf08 := hf7.out.trans hf8
      have hne6 : ¬ w.heap.size = g := by omega
      have hz8 : W8.rangeAt w.heap.size 0 [.int .i64 0, .string ⟨#[]⟩, .int .i64 0, .float .f64 0, .bool false, .slice none 0 0] := fun q x hq => hf8.cell (hz7.out q x hq) hne6
      have hk8 : Blk W8 w.heap.size := hk7.out.fr hf8 hne6
      obtain ⟨W9, hW9⟩ : ∃ W9, W9 = W8.alloc (.cells #[.int .i64 11, .string X, .int .i64 0, .float .f64 0, .bool false, .slice none 0 0] 26) := ⟨_, rfl⟩
      have hb9 : Below W8.heap.size W8 W9 := by rw [hW9]; exact (Below.refl _ _).alloc (Nat.le_refl _) _
      have hck := leaf_any 11 X 0 0 false (by decide) (by omega) W9
      have hv9 : W9.rangeAt W8.heap.size 0 [.int .i64 11, .string X, .int .i64 0, .float .f64 0, .bool false, .slice none 0 0] := by
        rw [hW9]; intro q x hq; rw [Nat.zero_add, World.cell?_alloc_new]; simpa using hq
      clear hf8 hs8 hl8 hb
      replace h8 := Lib.hid h8
      replace hf08 := Lib.hid hf08
      replace hz8 := Lib.hid hz8
      replace hk8 := Lib.hid hk8
      replace hv9 := Lib.hid hv9
      replace hb9 := Lib.hid hb9
      replace hW9 := Lib.hid hW9
      rw [if_neg (by simpa using ok.out)] at hck
      replace hck := Lib.hid hck
      go_wp2_with fail
      rw [← hW9.out]
      refine hck.out.mono ?_
      rintro e W10 ⟨rfl, hb10⟩
      have hb := hb9.out.trans (hb10.mono hb9.out.size)
      have hfA := hf08.out.trans (fr_of_below (g := g) hb)
      clear hb hb10
      replace hfA := Lib.hid hfA
      go_wp2_with fail
      refine (fail_any _).mono ?_
      rintro e w' ⟨rfl, hww⟩
      obtain rfl := hww.symm
      exact ⟨rfl, rfl, hfA.out⟩
  · rw [decide_eq_false ht] at htl
    replace ht := Lib.hid ht
    rcases hk with rfl | rfl | rfl
    · clear hn
      go_wp2_with fail
      refine hno6.out.mono ?_
      rintro e W7 ⟨rfl, hb⟩
      have h7 := h6.out.grow hb
      have hf7 := hf06.out.trans (fr_of_below (g := g) hb)
      have hz7 : W7.rangeAt w.heap.size 0 [.int .i64 0, .string ⟨#[]⟩, .int .i64 0, .float .f64 0, .bool false, .slice none 0 0] := fun q x hq => by rw [(hb).cell (World.block_lt_of_cell? _ _ (hz6.out q x hq))]; exact hz6.out q x hq
      have hk7 : Blk W7 w.heap.size := hk6.out.of_block ((hb).block _ hk6.out.lt)
      replace h7 := Lib.hid h7
      replace hf7 := Lib.hid hf7
      replace hz7 := Lib.hid hz7
      replace hk7 := Lib.hid hk7
      go_wp2_with fail
      refine (hlg.out W7 hb).mono ?_
      rintro e W8 ⟨rfl, hf8, hs8, hl8⟩
      have h8 := h7.out.next hf8 hs8 hl8
      have hf08 := hf7.out.trans hf8
      have hne6 : ¬ w.heap.size = g := by omega
      have hz8 : W8.rangeAt w.heap.size 0 [.int .i64 0, .string ⟨#[]⟩, .int .i64 0, .float .f64 0, .bool false, .slice none 0 0] := fun q x hq => hf8.cell (hz7.out q x hq) hne6
      have hk8 : Blk W8 w.heap.size := hk7.out.fr hf8 hne6
      obtain ⟨W9, hW9⟩ : ∃ W9, W9 = W8.alloc (.cells #[.int .i64 4, .string X, .int .i64 0, .float .f64 0, .bool false, .slice none 0 0] 26) := ⟨_, rfl⟩
      have hb9 : Below W8.heap.size W8 W9 := by rw [hW9]; exact (Below.refl _ _).alloc (Nat.le_refl _) _
      have hck := leaf_any 4 X 0 0 false (by decide) (by omega) W9
      have hv9 : W9.rangeAt W8.heap.size 0 [.int .i64 4, .string X, .int .i64 0, .float .f64 0, .bool false, .slice none 0 0] := by
        rw [hW9]; intro q x hq; rw [Nat.zero_add, World.cell?_alloc_new]; simpa using hq
      clear hf8 hs8 hl8 hb
      replace h8 := Lib.hid h8
      replace hf08 := Lib.hid hf08
      replace hz8 := Lib.hid hz8
      replace hk8 := Lib.hid hk8
      replace hv9 := Lib.hid hv9
      replace hb9 := Lib.hid hb9
      replace hW9 := Lib.hid hW9
      rw [if_neg (by simpa using ok.out)] at hck
      replace hck := Lib.hid hck
      go_wp2_with fail
      rw [← hW9.out]
      refine hck.out.mono ?_
      rintro e W10 ⟨rfl, hb10⟩
      have hb := hb9.out.trans (hb10.mono hb9.out.size)
      have hfA := hf08.out.trans (fr_of_below (g := g) hb)
      clear hb hb10
      replace hfA := Lib.hid hfA
      go_wp2_with fail
      refine (fail_any _).mono ?_
      rintro e w' ⟨rfl, hww⟩
      obtain rfl := hww.symm
      exact ⟨rfl, rfl, hfA.out⟩
    · clear hn
      go_wp2_with fail
      refine hno6.out.mono ?_
      rintro e W7 ⟨rfl, hb⟩
      have h7 := h6.out.grow hb
      have hf7 := hf06.out.trans (fr_of_below (g := g) hb)
      have hz7 : W7.rangeAt w.heap.size 0 [.int .i64 0, .string ⟨#[]⟩, .int .i64 0, .float .f64 0, .bool false, .slice none 0 0] := fun q x hq => by rw [(hb).cell (World.block_lt_of_cell? _ _ (hz6.out q x hq))]; exact hz6.out q x hq
      have hk7 : Blk W7 w.heap.size := hk6.out.of_block ((hb).block _ hk6.out.lt)
      replace h7 := Lib.hid h7
      replace hf7 := Lib.hid hf7
      replace hz7 := Lib.hid hz7
      replace hk7 := Lib.hid hk7
      go_wp2_with fail
      refine (hlg.out W7 hb).mono ?_
      rintro e W8 ⟨rfl, hf8, hs8, hl8⟩
      have h8 := h7.out.next hf8 hs8 hl8
      have hf08 := hf7.out.trans hf8
      have hne6 : ¬ w.heap.size = g := by omega
      have hz8 : W8.rangeAt w.heap.size 0 [.int .i64 0, .string ⟨#[]⟩, .int .i64 0, .float .f64 0, .bool false, .slice none 0 0] := fun q x hq => hf8.cell (hz7.out q x hq) hne6
      have hk8 : Blk W8 w.heap.size := hk7.out.fr hf8 hne6
      obtain ⟨W9, hW9⟩ : ∃ W9, W9 = W8.alloc (.cells #[.int .i64 10, .string X, .int .i64 0, .float .f64 0, .bool false, .slice none 0 0] 26) := ⟨_, rfl⟩
      have hb9 : Below W8.heap.size W8 W9 := by rw [hW9]; exact (Below.refl _ _).alloc (Nat.le_refl _) _
      have hck := leaf_any 10 X 0 0 false (by decide) (by omega) W9
      have hv9 : W9.rangeAt W8.heap.size 0 [.int .i64 10, .string X, .int .i64 0, .float .f64 0, .bool false, .slice none 0 0] := by
        rw [hW9]; intro q x hq; rw [Nat.zero_add, World.cell?_alloc_new]; simpa using hq
      clear hf8 hs8 hl8 hb
      replace h8 := Lib.hid h8
      replace hf08 := Lib.hid hf08
      replace hz8 := Lib.hid hz8
      replace hk8 := Lib.hid hk8
      replace hv9 := Lib.hid hv9
      replace hb9 := Lib.hid hb9
      replace hW9 := Lib.hid hW9
      rw [if_neg (by simpa using ok.out)] at hck
      replace hck := Lib.hid hck
      go_wp2_with fail
      rw [← hW9.out]
      refine hck.out.mono ?_
      rintro e W10 ⟨rfl, hb10⟩
      have hb := hb9.out.trans (hb10.mono hb9.out.size)
      have hfA := hf08.out.trans (fr_of_below (g := g) hb)
      clear hb hb10
      replace hfA := Lib.hid hfA
      go_wp2_with fail
      refine (fail_any _).mono ?_
      rintro e w' ⟨rfl, hww⟩
      obtain rfl := hww.symm
      exact ⟨rfl, rfl, hfA.out⟩
    · clear hn
      go_wp2_with fail
      refine hno6.out.mono ?_
      rintro e W7 ⟨rfl, hb⟩
      have h7 := h6.out.grow hb
      have hf7 := hf06.out.trans (fr_of_below (g := g) hb)
      have hz7 : W7.rangeAt w.heap.size 0 [.int .i64 0, .string ⟨#[]⟩, .int .i64 0, .float .f64 0, .bool false, .slice none 0 0] := fun q x hq => by rw [(hb).cell (World.block_lt_of_cell? _ _ (hz6.out q x hq))]; exact hz6.out q x hq
      have hk7 : Blk W7 w.heap.size := hk6.out.of_block ((hb).block _ hk6.out.lt)
      replace h7 := Lib.hid h7
      replace hf7 := Lib.hid hf7
      replace hz7 := Lib.hid hz7
      replace hk7 := Lib.hid hk7
      go_wp2_with fail
      refine (hlg.out W7 hb).mono ?_
      rintro e W8 ⟨rfl, hf8, hs8, hl8⟩
      have h8 := h7.out.next hf8 hs8 hl8
      have hf08 := hf7.out.trans hf8
      have hne6 : ¬ w.heap.size = g := by omega
      have hz8 : W8.rangeAt w.heap.size 0 [.int .i64 0, .string ⟨#[]⟩, .int .i64 0, .float .f64 0, .bool false, .slice none 0 0] := fun q x hq => hf8.cell (hz7.out q x hq) hne6
      have hk8 : Blk W8 w.heap.size := hk7.out.fr hf8 hne6
      obtain ⟨W9, hW9⟩ : ∃ W9, W9 = W8.alloc (.cells #[.int .i64 11, .string X, .int .i64 0, .float .f64 0, .bool false, .slice none 0 0] 26) := ⟨_, rfl⟩
      have hb9 : Below W8.heap.size W8 W9 := by rw [hW9]; exact (Below.refl _ _).alloc (Nat.le_refl _) _
      have hck := leaf_any 11 X 0 0 false (by decide) (by omega) W9
      have hv9 : W9.rangeAt W8.heap.size 0 [.int .i64 11, .string X, .int .i64 0, .float .f64 0, .bool false, .slice none 0 0] := by
        rw [hW9]; intro q x hq; rw [Nat.zero_add, World.cell?_alloc_new]; simpa using hq
      clear hf8 hs8 hl8 hb
      replace h8 := Lib.hid h8
      replace hf08 := Lib.hid hf08
      replace hz8 := Lib.hid hz8
      replace hk8 := Lib.hid hk8
      replace hv9 := Lib.hid hv9
      replace hb9 := Lib.hid hb9
      replace hW9 := Lib.hid hW9
      rw [if_neg (by simpa using ok.out)] at hck
      replace hck := Lib.hid hck
      go_wp2_with fail
      rw [← hW9.out]
      refine hck.out.mono ?_
      rintro e W10 ⟨rfl, hb10⟩
      have hb := hb9.out.trans (hb10.mono hb9.out.size)
      have hfA := hf08.out.trans (fr_of_below (g := g) hb)
      clear hb hb10
      replace hfA := Lib.hid hfA
      go_wp2_with fail
      refine (fail_any _).mono ?_
      rintro e w' ⟨rfl, hww⟩
      obtain rfl := hww.symm
      exact ⟨rfl, rfl, hfA.out⟩
end Go.Proofs.YtagkgfniihiinaaGreatDoor
