/- The reader: values that are lines. -/
import Derived.Test.YtagkgfniihiinaaGreatDoorRdT
namespace Go.Proofs.YtagkgfniihiinaaGreatDoor
open Go.RowKit

theorem rv_leaf {c : Addr → Option Value} (v : V) (h : v.list = []) : RV c (cells6 v.kind v.text v.int v.real v.flag none v.list.length 0) v := by
  cases v with
  | mk k t i r f l =>
    have : l = [] := h
    subst this
    exact RV.leaf _ _ _ _ _ _ _ _
theorem shortO_list {o : Option Nat} {k : Nat} {t : ByteArray} {v : V} (h : shortO o k t = some v) : v.list = [] := by
  unfold shortO at h
  split at h
  · cases h; rfl
  split at h
  · cases hw : wP t.data.toList with
    | none => rw [hw] at h; cases h
    | some n => rw [hw] at h; cases h; rfl
  split at h
  · cases o with
    | none => cases h
    | some r => cases h; rfl
  split at h
  · split at h
    · cases h; rfl
    · split at h
      · cases h; rfl
      · cases h
  · split at h
    · cases h; rfl
    · cases h
set_option maxRecDepth 100000 in
set_option maxHeartbeats 6400000 in
theorem value_short {rp : Rp} {w0 w : World} {g b o n cap at_ many u : Nat} {s : ByteArray} {d : Int} {c : UInt8} {t L : List UInt8} {v : V} (h : RS rp w0 w g b o n cap s at_ many) (hL : s.data.toList.drop at_ = c :: L)
    (hk : kindR c = 1 ∨ kindR c = 2 ∨ kindR c = 9 ∨ kindR c = 3 ∨ kindR c = 7 ∨ kindR c = 8 ∨ kindR c = 6) (hl : lineS L = .got (t, u)) (hK : kindR c = 7 → rp.K t) (ho : shortO (rp t) (kindR c) ⟨t.toArray⟩ = some v) (ok : okV v = true) :
    Calls Tryz.prog 46 #[.pointer (some ⟨g, 0, none⟩), .int .i64 d] w (ValQ rp w0 g b o n cap s at_ (.got (v, 1 + u, many)) w) := by
  have hn : True ∧ kindR c = kindR c := ⟨trivial, rfl⟩
  have hvl := shortO_list ho
  replace hvl := Lib.hid hvl
  replace ok := Lib.hid ok
  replace hK := Lib.hid hK
  obtain ⟨kd, hkd⟩ : ∃ kd, kd = kindR c := ⟨_, rfl⟩
  rw [← hkd] at hk hn
  have hlen := line_len hl
  have hts : (⟨t.toArray⟩ : ByteArray).size ≤ 1000000 := by
    rw [size_r]; show t.length ≤ _; omega
  have htl : ((⟨t.toArray⟩ : ByteArray).toList == [45, 49]) = decide (t = [45, 49]) := by
    rw [ByteArray.toList_eq]
    show (t == [45, 49]) = _
    rw [Bool.eq_iff_iff, beq_iff_eq, decide_eq_true_eq]
  replace hl := Lib.hid hl
  have hlt : at_ < n := by
    rcases Nat.lt_or_ge at_ n with hh | hh
    · exact hh
    · rw [List.drop_of_length_le (by rw [← size_r, h.scan.size]; exact hh)] at hL; cases hL
  have hai : ¬ (n : Int) ≤ (at_ : Int) := by omega
  have hai2 : (at_ : Int) < (n : Int) := by omega
  have hbig := h.scan.big
  obtain ⟨hcel, hL2⟩ : w.cell? ⟨b, o + at_, none⟩ = some (.int .u8 (c.toNat : Int)) ∧ s.data.toList.drop (at_ + 1) = L := by
    have hz := h.scan.size
    have h1 := h.scan.bytes at_ (by omega)
    have e1 := Lib.data_getElem? s at_ (by omega)
    have e2 : s.data.toList[at_]? = some c := by
      have := congrArg (·[0]?) hL
      simp only [List.getElem?_drop, Nat.add_zero] at this
      exact this
    rw [e1] at e2
    rw [h1, Option.some.inj e2]
    refine ⟨rfl, ?_⟩
    rw [← List.drop_drop, hL]; rfl
  have hcb := World.block_lt_of_cell? _ _ hcel
  replace hcb : b < w.heap.size := hcb
  replace hL := Lib.hid hL
  replace hL2 := Lib.hid hL2
  replace hcel := Lib.hid hcel
  obtain ⟨W1, hW1⟩ : ∃ W1, W1 = w.alloc (.cells #[.int .i64 0, .string ⟨#[]⟩, .int .i64 0, .float .f64 0, .bool false, .slice none 0 0] 26) := ⟨_, rfl⟩
  have hb1 : Below w.heap.size w W1 := by rw [hW1]; exact (Below.refl _ _).alloc (Nat.le_refl _) _
  have h1 := h.grow hb1
  have hz1 : W1.rangeAt w.heap.size 0 [.int .i64 0, .string ⟨#[]⟩, .int .i64 0, .float .f64 0, .bool false, .slice none 0 0] := by
    rw [hW1]; intro q x hq; rw [Nat.zero_add, World.cell?_alloc_new]; simpa using hq
  have hk1 : Blk W1 w.heap.size := by rw [hW1]; exact Blk.new _ _ _
  have c0 := h1.scan.c0
  have c1 := h1.scan.c1
  have hgl : g < W1.heap.size := h1.scan.blk.lt
  have hgw : g < w.heap.size := h.scan.blk.lt
  replace hW1 := Lib.hid hW1
  replace hb1 := Lib.hid hb1
  replace h1 := Lib.hid h1
  replace hz1 := Lib.hid hz1
  replace hk1 := Lib.hid hk1
  replace h := Lib.hid h
  go_enter Tryz.func46, Tryz.ntmps46
  go_wp2_with fail
  rw [← hW1.out]
  refine wp_region_grow (by kernel_rfl) (by kernel_rfl) ?_
  repeat (go_big_quiet_step ((fail)))
  refine wpQuiet_nil ?_
  rintro _ ⟨xq, rfl⟩
  have hS := grow_below W1 xq
  obtain ⟨W2, hW2⟩ : ∃ W2, W2 = grow W1 xq := ⟨_, rfl⟩
  rw [← hW2] at hS ⊢
  replace hW2 := Lib.hid hW2
  have h2 := h1.out.grow hS
  have hb2 : Below w.heap.size w W2 := hb1.out.trans (hS.mono hb1.out.size)
  have hz2 : W2.rangeAt w.heap.size 0 [.int .i64 0, .string ⟨#[]⟩, .int .i64 0, .float .f64 0, .bool false, .slice none 0 0] := fun q x hq => by rw [hS.cell (World.block_lt_of_cell? _ _ (hz1.out q x hq))]; exact hz1.out q x hq
  have hk2 : Blk W2 w.heap.size := hk1.out.of_block (hS.block _ hk1.out.lt)
  clear c0 c1 hS
  replace h2 := Lib.hid h2
  replace hb2 := Lib.hid hb2
  replace hz2 := Lib.hid hz2
  replace hk2 := Lib.hid hk2
  have c0 := h2.out.scan.c0
  have c1 := h2.out.scan.c1
  have cc := (hb2.out.cell (p := ⟨b, o + at_, none⟩) hcb).trans hcel.out
  have hgl2 : g < W2.heap.size := h2.out.scan.blk.lt
  have hbl2 : b < W2.heap.size := Nat.lt_of_lt_of_le hcb hb2.out.size
  go_wp2_with fail
  refine wp_region_grow (by kernel_rfl) (by kernel_rfl) ?_
  repeat (go_big_quiet_step ((go_at_call 63; (with_reducible exact quiet_grow (kinds_grow _ _)))))
  refine wpQuiet_nil ?_
  rintro _ ⟨xq, rfl⟩
  have hS := grow_below W2 xq
  obtain ⟨W3, hW3⟩ : ∃ W3, W3 = grow W2 xq := ⟨_, rfl⟩
  rw [← hW3] at hS ⊢
  replace hW3 := Lib.hid hW3
  have h3 := h2.out.grow hS
  have hb3 : Below w.heap.size w W3 := hb2.out.trans (hS.mono hb2.out.size)
  have hz3 : W3.rangeAt w.heap.size 0 [.int .i64 0, .string ⟨#[]⟩, .int .i64 0, .float .f64 0, .bool false, .slice none 0 0] := fun q x hq => by rw [hS.cell (World.block_lt_of_cell? _ _ (hz2.out q x hq))]; exact hz2.out q x hq
  have hk3 : Blk W3 w.heap.size := hk2.out.of_block (hS.block _ hk2.out.lt)
  clear c0 c1 hS cc
  replace h3 := Lib.hid h3
  replace hb3 := Lib.hid hb3
  replace hz3 := Lib.hid hz3
  replace hk3 := Lib.hid hk3
  rw [← hkd]
  have hk0 : ((kd : Int) == 0) = false := by simp; omega
  replace hkd := Lib.hid hkd
  have c1 := h3.out.scan.c1
  have fz := h3.out.scan.blk.frz 1 none
  go_wp2_with fail
  have e4 : (at_ : Int) + 1 = ((at_ + 1 : Nat) : Int) := by omega
  rw [e4]
  have hf4 : Fr (fun k => k = g) w (W3.setCell ⟨g, 1, none⟩ (.int .i64 ((at_ + 1 : Nat) : Int))) := Fr.setCell (S := fun k => k = g) (fr_of_below hb3.out) (fun _ => rfl) _
  have h4 : RS rp w0 (W3.setCell ⟨g, 1, none⟩ (.int .i64 ((at_ + 1 : Nat) : Int))) g b o n cap s (at_ + 1) many := h3.out.next (Fr.setCell (S := fun k => k = g) (Fr.refl _ _) (fun _ => rfl) _) (h3.out.scan.move _) (by omega)
  have hz4 : (W3.setCell ⟨g, 1, none⟩ (.int .i64 ((at_ + 1 : Nat) : Int))).rangeAt w.heap.size 0 [.int .i64 0, .string ⟨#[]⟩, .int .i64 0, .float .f64 0, .bool false, .slice none 0 0] := fun q x hq => by
    rw [cell_set_ne (fun e => by have := congrArg Addr.block e; simp at this; omega)]; exact hz3.out q x hq
  have hk4 : Blk (W3.setCell ⟨g, 1, none⟩ (.int .i64 ((at_ + 1 : Nat) : Int))) w.heap.size := hk3.out.setCell _ _
  generalize W3.setCell ⟨g, 1, none⟩ (.int .i64 ((at_ + 1 : Nat) : Int)) = W4 at *
  clear c1 fz e4
  replace h4 := Lib.hid h4
  replace hf4 := Lib.hid hf4
  replace hz4 := Lib.hid hz4
  replace hk4 := Lib.hid hk4
  refine (line_got h4.out.scan h4.out.le (by rw [hL2.out]; exact hl.out)).mono ?_
  rintro e W6 ⟨rfl, hf6, hs6, hle6⟩
  have h6 := h4.out.next hf6 hs6 hle6
  have hf06 := hf4.out.trans hf6
  have hne6 : ¬ w.heap.size = g := by omega
  have hz6 : W6.rangeAt w.heap.size 0 [.int .i64 0, .string ⟨#[]⟩, .int .i64 0, .float .f64 0, .bool false, .slice none 0 0] := fun q x hq => hf6.cell (hz4.out q x hq) hne6
  have hk6 : Blk W6 w.heap.size := hk4.out.fr hf6 hne6
  clear hf6 hs6 hle6
  replace h6 := Lib.hid h6
  replace hf06 := Lib.hid hf06
  replace hz6 := Lib.hid hz6
  replace hk6 := Lib.hid hk6
  have hsh := short_any (w := W6) (k := kd) (t := ⟨t.toArray⟩) (o := rp t) hk hts h6.out.nums (fun hk7 W hW => h6.out.env.real W (h6.out.grow hW).below t (hK.out (by rw [← hkd.out]; exact hk7)))
  rw [hkd.out, ho] at hsh
  unfold ShortQ at hsh
  dsimp only at hsh
  rw [← hkd.out] at hsh
  replace hsh := Lib.hid hsh
  clear ho hlen hts
  generalize (⟨t.toArray⟩ : ByteArray) = T at *
  have hd45 : (decide (t = [45, 49])) = true ∨ (decide (t = [45, 49])) = false := by cases decide (t = [45, 49]) <;> simp
  generalize decide (t = [45, 49]) = D at *
  replace hn := Lib.hid hn
  rcases hd45 with rfl | rfl
  · rcases hk with rfl | rfl | rfl | rfl | rfl | rfl | rfl
    · clear hn
      go_wp2_with fail
      refine hsh.out.mono ?_
      rintro e W7 ⟨he, hb⟩
      rw [if_pos ok.out] at he
      subst he
      have h7 := h6.out.grow hb
      have hf7 := hf06.out.trans (fr_of_below (g := g) hb)
      have hz7 : W7.rangeAt w.heap.size 0 [.int .i64 0, .string ⟨#[]⟩, .int .i64 0, .float .f64 0, .bool false, .slice none 0 0] := fun q x hq => by rw [(hb).cell (World.block_lt_of_cell? _ _ (hz6.out q x hq))]; exact hz6.out q x hq
      have hk7 : Blk W7 w.heap.size := hk6.out.of_block ((hb).block _ hk6.out.lt)
      replace h7 := Lib.hid h7
      replace hf7 := Lib.hid hf7
      replace hz7 := Lib.hid hz7
      replace hk7 := Lib.hid hk7
      clear hb
      have htC := there_of (n := 6) hz7.out hk7.out rfl
      have hrR : (W7.setCells w.heap.size 0 [.int .i64 v.kind, .string v.text, .int .i64 v.int, .float .f64 v.real, .bool v.flag, .slice none 0 0]).rangeAt w.heap.size 0 [.int .i64 v.kind, .string v.text, .int .i64 v.int, .float .f64 v.real, .bool v.flag, .slice none 0 0] := World.rangeAt_setCells_same _ _ _ _ htC
      have hfw : Fr (fun k => k = w.heap.size) W7 (W7.setCells w.heap.size 0 [.int .i64 v.kind, .string v.text, .int .i64 v.int, .float .f64 v.real, .bool v.flag, .slice none 0 0]) := Fr.setCells (S := fun k => k = w.heap.size) (fun _ => rfl) _ _ _ (Fr.refl _ _)
      have hff := hf7.out.trans_new hfw (fun i hi e => by omega)
      have hrs : RS rp w0 (W7.setCells w.heap.size 0 [.int .i64 v.kind, .string v.text, .int .i64 v.int, .float .f64 v.real, .bool v.flag, .slice none 0 0]) g b o n cap s _ many := ⟨h7.out.scan.fr hfw (by omega) (by omega), h7.out.env, h7.out.below.trans (hfw.below h7.out.below.size (fun i hi e => by have := h7.out.below.size; have := h7.out.base; omega)), h7.out.base, h7.out.le⟩
      replace htC := Lib.hid htC
      replace hrR := Lib.hid hrR
      replace hff := Lib.hid hff
      replace hrs := Lib.hid hrs
      clear hfw
      go_wp2_with (refine wpList_store_mid rfl 26 _ _ rfl w.heap.size 0 _ rfl rfl htC.out infoVal (one6 _ _ _ _ _ _ _ _) ?_)
      refine bodyPost_ret (results_cell1 (v := .agg #[.int .i64 v.kind, .string v.text, .int .i64 v.int, .float .f64 v.real, .bool v.flag, .slice none 0 0]) rfl rfl (run_loadVar_mid (P := Tryz.prog) _ _ 0 26 _ _ hrR.out Tryz.underlying26 rfl infoVal)) rfl ?_
      exact ⟨none, 0, by rw [hvl.out]; rfl, rv_leaf _ hvl.out, hff.out, by rw [show at_ + (1 + u) = at_ + 1 + u by omega]; exact hrs.out⟩
    · clear hn
      go_wp2_with fail
      refine hsh.out.mono ?_
      rintro e W7 ⟨he, hb⟩
      rw [if_pos ok.out] at he
      subst he
      have h7 := h6.out.grow hb
      have hf7 := hf06.out.trans (fr_of_below (g := g) hb)
      have hz7 : W7.rangeAt w.heap.size 0 [.int .i64 0, .string ⟨#[]⟩, .int .i64 0, .float .f64 0, .bool false, .slice none 0 0] := fun q x hq => by rw [(hb).cell (World.block_lt_of_cell? _ _ (hz6.out q x hq))]; exact hz6.out q x hq
      have hk7 : Blk W7 w.heap.size := hk6.out.of_block ((hb).block _ hk6.out.lt)
      replace h7 := Lib.hid h7
      replace hf7 := Lib.hid hf7
      replace hz7 := Lib.hid hz7
      replace hk7 := Lib.hid hk7
      clear hb
      have htC := there_of (n := 6) hz7.out hk7.out rfl
      have hrR : (W7.setCells w.heap.size 0 [.int .i64 v.kind, .string v.text, .int .i64 v.int, .float .f64 v.real, .bool v.flag, .slice none 0 0]).rangeAt w.heap.size 0 [.int .i64 v.kind, .string v.text, .int .i64 v.int, .float .f64 v.real, .bool v.flag, .slice none 0 0] := World.rangeAt_setCells_same _ _ _ _ htC
      have hfw : Fr (fun k => k = w.heap.size) W7 (W7.setCells w.heap.size 0 [.int .i64 v.kind, .string v.text, .int .i64 v.int, .float .f64 v.real, .bool v.flag, .slice none 0 0]) := Fr.setCells (S := fun k => k = w.heap.size) (fun _ => rfl) _ _ _ (Fr.refl _ _)
      have hff := hf7.out.trans_new hfw (fun i hi e => by omega)
      have hrs : RS rp w0 (W7.setCells w.heap.size 0 [.int .i64 v.kind, .string v.text, .int .i64 v.int, .float .f64 v.real, .bool v.flag, .slice none 0 0]) g b o n cap s _ many := ⟨h7.out.scan.fr hfw (by omega) (by omega), h7.out.env, h7.out.below.trans (hfw.below h7.out.below.size (fun i hi e => by have := h7.out.below.size; have := h7.out.base; omega)), h7.out.base, h7.out.le⟩
      replace htC := Lib.hid htC
      replace hrR := Lib.hid hrR
      replace hff := Lib.hid hff
      replace hrs := Lib.hid hrs
      clear hfw
      go_wp2_with (refine wpList_store_mid rfl 26 _ _ rfl w.heap.size 0 _ rfl rfl htC.out infoVal (one6 _ _ _ _ _ _ _ _) ?_)
      refine bodyPost_ret (results_cell1 (v := .agg #[.int .i64 v.kind, .string v.text, .int .i64 v.int, .float .f64 v.real, .bool v.flag, .slice none 0 0]) rfl rfl (run_loadVar_mid (P := Tryz.prog) _ _ 0 26 _ _ hrR.out Tryz.underlying26 rfl infoVal)) rfl ?_
      exact ⟨none, 0, by rw [hvl.out]; rfl, rv_leaf _ hvl.out, hff.out, by rw [show at_ + (1 + u) = at_ + 1 + u by omega]; exact hrs.out⟩
    · clear hn
      go_wp2_with fail
      refine hsh.out.mono ?_
      rintro e W7 ⟨he, hb⟩
      rw [if_pos ok.out] at he
      subst he
      have h7 := h6.out.grow hb
      have hf7 := hf06.out.trans (fr_of_below (g := g) hb)
      have hz7 : W7.rangeAt w.heap.size 0 [.int .i64 0, .string ⟨#[]⟩, .int .i64 0, .float .f64 0, .bool false, .slice none 0 0] := fun q x hq => by rw [(hb).cell (World.block_lt_of_cell? _ _ (hz6.out q x hq))]; exact hz6.out q x hq
      have hk7 : Blk W7 w.heap.size := hk6.out.of_block ((hb).block _ hk6.out.lt)
      replace h7 := Lib.hid h7
      replace hf7 := Lib.hid hf7
      replace hz7 := Lib.hid hz7
      replace hk7 := Lib.hid hk7
      clear hb
      have htC := there_of (n := 6) hz7.out hk7.out rfl
      have hrR : (W7.setCells w.heap.size 0 [.int .i64 v.kind, .string v.text, .int .i64 v.int, .float .f64 v.real, .bool v.flag, .slice none 0 0]).rangeAt w.heap.size 0 [.int .i64 v.kind, .string v.text, .int .i64 v.int, .float .f64 v.real, .bool v.flag, .slice none 0 0] := World.rangeAt_setCells_same _ _ _ _ htC
      have hfw : Fr (fun k => k = w.heap.size) W7 (W7.setCells w.heap.size 0 [.int .i64 v.kind, .string v.text, .int .i64 v.int, .float .f64 v.real, .bool v.flag, .slice none 0 0]) := Fr.setCells (S := fun k => k = w.heap.size) (fun _ => rfl) _ _ _ (Fr.refl _ _)
      have hff := hf7.out.trans_new hfw (fun i hi e => by omega)
      have hrs : RS rp w0 (W7.setCells w.heap.size 0 [.int .i64 v.kind, .string v.text, .int .i64 v.int, .float .f64 v.real, .bool v.flag, .slice none 0 0]) g b o n cap s _ many := ⟨h7.out.scan.fr hfw (by omega) (by omega), h7.out.env, h7.out.below.trans (hfw.below h7.out.below.size (fun i hi e => by have := h7.out.below.size; have := h7.out.base; omega)), h7.out.base, h7.out.le⟩
      replace htC := Lib.hid htC
      replace hrR := Lib.hid hrR
      replace hff := Lib.hid hff
      replace hrs := Lib.hid hrs
      clear hfw
      go_wp2_with (refine wpList_store_mid rfl 26 _ _ rfl w.heap.size 0 _ rfl rfl htC.out infoVal (one6 _ _ _ _ _ _ _ _) ?_)
      refine bodyPost_ret (results_cell1 (v := .agg #[.int .i64 v.kind, .string v.text, .int .i64 v.int, .float .f64 v.real, .bool v.flag, .slice none 0 0]) rfl rfl (run_loadVar_mid (P := Tryz.prog) _ _ 0 26 _ _ hrR.out Tryz.underlying26 rfl infoVal)) rfl ?_
      exact ⟨none, 0, by rw [hvl.out]; rfl, rv_leaf _ hvl.out, hff.out, by rw [show at_ + (1 + u) = at_ + 1 + u by omega]; exact hrs.out⟩
    · clear hn
      go_wp2_with fail
      refine hsh.out.mono ?_
      rintro e W7 ⟨he, hb⟩
      rw [if_pos ok.out] at he
      subst he
      have h7 := h6.out.grow hb
      have hf7 := hf06.out.trans (fr_of_below (g := g) hb)
      have hz7 : W7.rangeAt w.heap.size 0 [.int .i64 0, .string ⟨#[]⟩, .int .i64 0, .float .f64 0, .bool false, .slice none 0 0] := fun q x hq => by rw [(hb).cell (World.block_lt_of_cell? _ _ (hz6.out q x hq))]; exact hz6.out q x hq
      have hk7 : Blk W7 w.heap.size := hk6.out.of_block ((hb).block _ hk6.out.lt)
      replace h7 := Lib.hid h7
      replace hf7 := Lib.hid hf7
      replace hz7 := Lib.hid hz7
      replace hk7 := Lib.hid hk7
      clear hb
      have htC := there_of (n := 6) hz7.out hk7.out rfl
      have hrR : (W7.setCells w.heap.size 0 [.int .i64 v.kind, .string v.text, .int .i64 v.int, .float .f64 v.real, .bool v.flag, .slice none 0 0]).rangeAt w.heap.size 0 [.int .i64 v.kind, .string v.text, .int .i64 v.int, .float .f64 v.real, .bool v.flag, .slice none 0 0] := World.rangeAt_setCells_same _ _ _ _ htC
      have hfw : Fr (fun k => k = w.heap.size) W7 (W7.setCells w.heap.size 0 [.int .i64 v.kind, .string v.text, .int .i64 v.int, .float .f64 v.real, .bool v.flag, .slice none 0 0]) := Fr.setCells (S := fun k => k = w.heap.size) (fun _ => rfl) _ _ _ (Fr.refl _ _)
      have hff := hf7.out.trans_new hfw (fun i hi e => by omega)
      have hrs : RS rp w0 (W7.setCells w.heap.size 0 [.int .i64 v.kind, .string v.text, .int .i64 v.int, .float .f64 v.real, .bool v.flag, .slice none 0 0]) g b o n cap s _ many := ⟨h7.out.scan.fr hfw (by omega) (by omega), h7.out.env, h7.out.below.trans (hfw.below h7.out.below.size (fun i hi e => by have := h7.out.below.size; have := h7.out.base; omega)), h7.out.base, h7.out.le⟩
      replace htC := Lib.hid htC
      replace hrR := Lib.hid hrR
      replace hff := Lib.hid hff
      replace hrs := Lib.hid hrs
      clear hfw
      go_wp2_with (refine wpList_store_mid rfl 26 _ _ rfl w.heap.size 0 _ rfl rfl htC.out infoVal (one6 _ _ _ _ _ _ _ _) ?_)
      refine bodyPost_ret (results_cell1 (v := .agg #[.int .i64 v.kind, .string v.text, .int .i64 v.int, .float .f64 v.real, .bool v.flag, .slice none 0 0]) rfl rfl (run_loadVar_mid (P := Tryz.prog) _ _ 0 26 _ _ hrR.out Tryz.underlying26 rfl infoVal)) rfl ?_
      exact ⟨none, 0, by rw [hvl.out]; rfl, rv_leaf _ hvl.out, hff.out, by rw [show at_ + (1 + u) = at_ + 1 + u by omega]; exact hrs.out⟩
    · clear hn
      go_wp2_with fail
      refine hsh.out.mono ?_
      rintro e W7 ⟨he, hb⟩
      rw [if_pos ok.out] at he
      subst he
      have h7 := h6.out.grow hb
      have hf7 := hf06.out.trans (fr_of_below (g := g) hb)
      have hz7 : W7.rangeAt w.heap.size 0 [.int .i64 0, .string ⟨#[]⟩, .int .i64 0, .float .f64 0, .bool false, .slice none 0 0] := fun q x hq => by rw [(hb).cell (World.block_lt_of_cell? _ _ (hz6.out q x hq))]; exact hz6.out q x hq
      have hk7 : Blk W7 w.heap.size := hk6.out.of_block ((hb).block _ hk6.out.lt)
      replace h7 := Lib.hid h7
      replace hf7 := Lib.hid hf7
      replace hz7 := Lib.hid hz7
      replace hk7 := Lib.hid hk7
      clear hb
      have htC := there_of (n := 6) hz7.out hk7.out rfl
      have hrR : (W7.setCells w.heap.size 0 [.int .i64 v.kind, .string v.text, .int .i64 v.int, .float .f64 v.real, .bool v.flag, .slice none 0 0]).rangeAt w.heap.size 0 [.int .i64 v.kind, .string v.text, .int .i64 v.int, .float .f64 v.real, .bool v.flag, .slice none 0 0] := World.rangeAt_setCells_same _ _ _ _ htC
      have hfw : Fr (fun k => k = w.heap.size) W7 (W7.setCells w.heap.size 0 [.int .i64 v.kind, .string v.text, .int .i64 v.int, .float .f64 v.real, .bool v.flag, .slice none 0 0]) := Fr.setCells (S := fun k => k = w.heap.size) (fun _ => rfl) _ _ _ (Fr.refl _ _)
      have hff := hf7.out.trans_new hfw (fun i hi e => by omega)
      have hrs : RS rp w0 (W7.setCells w.heap.size 0 [.int .i64 v.kind, .string v.text, .int .i64 v.int, .float .f64 v.real, .bool v.flag, .slice none 0 0]) g b o n cap s _ many := ⟨h7.out.scan.fr hfw (by omega) (by omega), h7.out.env, h7.out.below.trans (hfw.below h7.out.below.size (fun i hi e => by have := h7.out.below.size; have := h7.out.base; omega)), h7.out.base, h7.out.le⟩
      replace htC := Lib.hid htC
      replace hrR := Lib.hid hrR
      replace hff := Lib.hid hff
      replace hrs := Lib.hid hrs
      clear hfw
      go_wp2_with (refine wpList_store_mid rfl 26 _ _ rfl w.heap.size 0 _ rfl rfl htC.out infoVal (one6 _ _ _ _ _ _ _ _) ?_)
      refine bodyPost_ret (results_cell1 (v := .agg #[.int .i64 v.kind, .string v.text, .int .i64 v.int, .float .f64 v.real, .bool v.flag, .slice none 0 0]) rfl rfl (run_loadVar_mid (P := Tryz.prog) _ _ 0 26 _ _ hrR.out Tryz.underlying26 rfl infoVal)) rfl ?_
      exact ⟨none, 0, by rw [hvl.out]; rfl, rv_leaf _ hvl.out, hff.out, by rw [show at_ + (1 + u) = at_ + 1 + u by omega]; exact hrs.out⟩
    · clear hn
      go_wp2_with fail
      refine hsh.out.mono ?_
      rintro e W7 ⟨he, hb⟩
      rw [if_pos ok.out] at he
      subst he
      have h7 := h6.out.grow hb
      have hf7 := hf06.out.trans (fr_of_below (g := g) hb)
      have hz7 : W7.rangeAt w.heap.size 0 [.int .i64 0, .string ⟨#[]⟩, .int .i64 0, .float .f64 0, .bool false, .slice none 0 0] := fun q x hq => by rw [(hb).cell (World.block_lt_of_cell? _ _ (hz6.out q x hq))]; exact hz6.out q x hq
      have hk7 : Blk W7 w.heap.size := hk6.out.of_block ((hb).block _ hk6.out.lt)
      replace h7 := Lib.hid h7
      replace hf7 := Lib.hid hf7
      replace hz7 := Lib.hid hz7
      replace hk7 := Lib.hid hk7
      clear hb
      have htC := there_of (n := 6) hz7.out hk7.out rfl
      have hrR : (W7.setCells w.heap.size 0 [.int .i64 v.kind, .string v.text, .int .i64 v.int, .float .f64 v.real, .bool v.flag, .slice none 0 0]).rangeAt w.heap.size 0 [.int .i64 v.kind, .string v.text, .int .i64 v.int, .float .f64 v.real, .bool v.flag, .slice none 0 0] := World.rangeAt_setCells_same _ _ _ _ htC
      have hfw : Fr (fun k => k = w.heap.size) W7 (W7.setCells w.heap.size 0 [.int .i64 v.kind, .string v.text, .int .i64 v.int, .float .f64 v.real, .bool v.flag, .slice none 0 0]) := Fr.setCells (S := fun k => k = w.heap.size) (fun _ => rfl) _ _ _ (Fr.refl _ _)
      have hff := hf7.out.trans_new hfw (fun i hi e => by omega)
      have hrs : RS rp w0 (W7.setCells w.heap.size 0 [.int .i64 v.kind, .string v.text, .int .i64 v.int, .float .f64 v.real, .bool v.flag, .slice none 0 0]) g b o n cap s _ many := ⟨h7.out.scan.fr hfw (by omega) (by omega), h7.out.env, h7.out.below.trans (hfw.below h7.out.below.size (fun i hi e => by have := h7.out.below.size; have := h7.out.base; omega)), h7.out.base, h7.out.le⟩
      replace htC := Lib.hid htC
      replace hrR := Lib.hid hrR
      replace hff := Lib.hid hff
      replace hrs := Lib.hid hrs
      clear hfw
      go_wp2_with (refine wpList_store_mid rfl 26 _ _ rfl w.heap.size 0 _ rfl rfl htC.out infoVal (one6 _ _ _ _ _ _ _ _) ?_)
      refine bodyPost_ret (results_cell1 (v := .agg #[.int .i64 v.kind, .string v.text, .int .i64 v.int, .float .f64 v.real, .bool v.flag, .slice none 0 0]) rfl rfl (run_loadVar_mid (P := Tryz.prog) _ _ 0 26 _ _ hrR.out Tryz.underlying26 rfl infoVal)) rfl ?_
      exact ⟨none, 0, by rw [hvl.out]; rfl, rv_leaf _ hvl.out, hff.out, by rw [show at_ + (1 + u) = at_ + 1 + u by omega]; exact hrs.out⟩
    · clear hn
      go_wp2_with fail
      refine hsh.out.mono ?_
      rintro e W7 ⟨he, hb⟩
      rw [if_pos ok.out] at he
      subst he
      have h7 := h6.out.grow hb
      have hf7 := hf06.out.trans (fr_of_below (g := g) hb)
      have hz7 : W7.rangeAt w.heap.size 0 [.int .i64 0, .string ⟨#[]⟩, .int .i64 0, .float .f64 0, .bool false, .slice none 0 0] := fun q x hq => by rw [(hb).cell (World.block_lt_of_cell? _ _ (hz6.out q x hq))]; exact hz6.out q x hq
      have hk7 : Blk W7 w.heap.size := hk6.out.of_block ((hb).block _ hk6.out.lt)
      replace h7 := Lib.hid h7
      replace hf7 := Lib.hid hf7
      replace hz7 := Lib.hid hz7
      replace hk7 := Lib.hid hk7
      clear hb
      have htC := there_of (n := 6) hz7.out hk7.out rfl
      have hrR : (W7.setCells w.heap.size 0 [.int .i64 v.kind, .string v.text, .int .i64 v.int, .float .f64 v.real, .bool v.flag, .slice none 0 0]).rangeAt w.heap.size 0 [.int .i64 v.kind, .string v.text, .int .i64 v.int, .float .f64 v.real, .bool v.flag, .slice none 0 0] := World.rangeAt_setCells_same _ _ _ _ htC
      have hfw : Fr (fun k => k = w.heap.size) W7 (W7.setCells w.heap.size 0 [.int .i64 v.kind, .string v.text, .int .i64 v.int, .float .f64 v.real, .bool v.flag, .slice none 0 0]) := Fr.setCells (S := fun k => k = w.heap.size) (fun _ => rfl) _ _ _ (Fr.refl _ _)
      have hff := hf7.out.trans_new hfw (fun i hi e => by omega)
      have hrs : RS rp w0 (W7.setCells w.heap.size 0 [.int .i64 v.kind, .string v.text, .int .i64 v.int, .float .f64 v.real, .bool v.flag, .slice none 0 0]) g b o n cap s _ many := ⟨h7.out.scan.fr hfw (by omega) (by omega), h7.out.env, h7.out.below.trans (hfw.below h7.out.below.size (fun i hi e => by have := h7.out.below.size; have := h7.out.base; omega)), h7.out.base, h7.out.le⟩
      replace htC := Lib.hid htC
      replace hrR := Lib.hid hrR
      replace hff := Lib.hid hff
      replace hrs := Lib.hid hrs
      clear hfw
      go_wp2_with (refine wpList_store_mid rfl 26 _ _ rfl w.heap.size 0 _ rfl rfl htC.out infoVal (one6 _ _ _ _ _ _ _ _) ?_)
      refine bodyPost_ret (results_cell1 (v := .agg #[.int .i64 v.kind, .string v.text, .int .i64 v.int, .float .f64 v.real, .bool v.flag, .slice none 0 0]) rfl rfl (run_loadVar_mid (P := Tryz.prog) _ _ 0 26 _ _ hrR.out Tryz.underlying26 rfl infoVal)) rfl ?_
      exact ⟨none, 0, by rw [hvl.out]; rfl, rv_leaf _ hvl.out, hff.out, by rw [show at_ + (1 + u) = at_ + 1 + u by omega]; exact hrs.out⟩
  · rcases hk with rfl | rfl | rfl | rfl | rfl | rfl | rfl
    · clear hn
      go_wp2_with fail
      refine hsh.out.mono ?_
      rintro e W7 ⟨he, hb⟩
      rw [if_pos ok.out] at he
      subst he
      have h7 := h6.out.grow hb
      have hf7 := hf06.out.trans (fr_of_below (g := g) hb)
      have hz7 : W7.rangeAt w.heap.size 0 [.int .i64 0, .string ⟨#[]⟩, .int .i64 0, .float .f64 0, .bool false, .slice none 0 0] := fun q x hq => by rw [(hb).cell (World.block_lt_of_cell? _ _ (hz6.out q x hq))]; exact hz6.out q x hq
      have hk7 : Blk W7 w.heap.size := hk6.out.of_block ((hb).block _ hk6.out.lt)
      replace h7 := Lib.hid h7
      replace hf7 := Lib.hid hf7
      replace hz7 := Lib.hid hz7
      replace hk7 := Lib.hid hk7
      clear hb
      have htC := there_of (n := 6) hz7.out hk7.out rfl
      have hrR : (W7.setCells w.heap.size 0 [.int .i64 v.kind, .string v.text, .int .i64 v.int, .float .f64 v.real, .bool v.flag, .slice none 0 0]).rangeAt w.heap.size 0 [.int .i64 v.kind, .string v.text, .int .i64 v.int, .float .f64 v.real, .bool v.flag, .slice none 0 0] := World.rangeAt_setCells_same _ _ _ _ htC
      have hfw : Fr (fun k => k = w.heap.size) W7 (W7.setCells w.heap.size 0 [.int .i64 v.kind, .string v.text, .int .i64 v.int, .float .f64 v.real, .bool v.flag, .slice none 0 0]) := Fr.setCells (S := fun k => k = w.heap.size) (fun _ => rfl) _ _ _ (Fr.refl _ _)
      have hff := hf7.out.trans_new hfw (fun i hi e => by omega)
      have hrs : RS rp w0 (W7.setCells w.heap.size 0 [.int .i64 v.kind, .string v.text, .int .i64 v.int, .float .f64 v.real, .bool v.flag, .slice none 0 0]) g b o n cap s _ many := ⟨h7.out.scan.fr hfw (by omega) (by omega), h7.out.env, h7.out.below.trans (hfw.below h7.out.below.size (fun i hi e => by have := h7.out.below.size; have := h7.out.base; omega)), h7.out.base, h7.out.le⟩
      replace htC := Lib.hid htC
      replace hrR := Lib.hid hrR
      replace hff := Lib.hid hff
      replace hrs := Lib.hid hrs
      clear hfw
      go_wp2_with (refine wpList_store_mid rfl 26 _ _ rfl w.heap.size 0 _ rfl rfl htC.out infoVal (one6 _ _ _ _ _ _ _ _) ?_)
      refine bodyPost_ret (results_cell1 (v := .agg #[.int .i64 v.kind, .string v.text, .int .i64 v.int, .float .f64 v.real, .bool v.flag, .slice none 0 0]) rfl rfl (run_loadVar_mid (P := Tryz.prog) _ _ 0 26 _ _ hrR.out Tryz.underlying26 rfl infoVal)) rfl ?_
      exact ⟨none, 0, by rw [hvl.out]; rfl, rv_leaf _ hvl.out, hff.out, by rw [show at_ + (1 + u) = at_ + 1 + u by omega]; exact hrs.out⟩
    · clear hn
      go_wp2_with fail
      refine hsh.out.mono ?_
      rintro e W7 ⟨he, hb⟩
      rw [if_pos ok.out] at he
      subst he
      have h7 := h6.out.grow hb
      have hf7 := hf06.out.trans (fr_of_below (g := g) hb)
      have hz7 : W7.rangeAt w.heap.size 0 [.int .i64 0, .string ⟨#[]⟩, .int .i64 0, .float .f64 0, .bool false, .slice none 0 0] := fun q x hq => by rw [(hb).cell (World.block_lt_of_cell? _ _ (hz6.out q x hq))]; exact hz6.out q x hq
      have hk7 : Blk W7 w.heap.size := hk6.out.of_block ((hb).block _ hk6.out.lt)
      replace h7 := Lib.hid h7
      replace hf7 := Lib.hid hf7
      replace hz7 := Lib.hid hz7
      replace hk7 := Lib.hid hk7
      clear hb
      have htC := there_of (n := 6) hz7.out hk7.out rfl
      have hrR : (W7.setCells w.heap.size 0 [.int .i64 v.kind, .string v.text, .int .i64 v.int, .float .f64 v.real, .bool v.flag, .slice none 0 0]).rangeAt w.heap.size 0 [.int .i64 v.kind, .string v.text, .int .i64 v.int, .float .f64 v.real, .bool v.flag, .slice none 0 0] := World.rangeAt_setCells_same _ _ _ _ htC
      have hfw : Fr (fun k => k = w.heap.size) W7 (W7.setCells w.heap.size 0 [.int .i64 v.kind, .string v.text, .int .i64 v.int, .float .f64 v.real, .bool v.flag, .slice none 0 0]) := Fr.setCells (S := fun k => k = w.heap.size) (fun _ => rfl) _ _ _ (Fr.refl _ _)
      have hff := hf7.out.trans_new hfw (fun i hi e => by omega)
      have hrs : RS rp w0 (W7.setCells w.heap.size 0 [.int .i64 v.kind, .string v.text, .int .i64 v.int, .float .f64 v.real, .bool v.flag, .slice none 0 0]) g b o n cap s _ many := ⟨h7.out.scan.fr hfw (by omega) (by omega), h7.out.env, h7.out.below.trans (hfw.below h7.out.below.size (fun i hi e => by have := h7.out.below.size; have := h7.out.base; omega)), h7.out.base, h7.out.le⟩
      replace htC := Lib.hid htC
      replace hrR := Lib.hid hrR
      replace hff := Lib.hid hff
      replace hrs := Lib.hid hrs
      clear hfw
      go_wp2_with (refine wpList_store_mid rfl 26 _ _ rfl w.heap.size 0 _ rfl rfl htC.out infoVal (one6 _ _ _ _ _ _ _ _) ?_)
      refine bodyPost_ret (results_cell1 (v := .agg #[.int .i64 v.kind, .string v.text, .int .i64 v.int, .float .f64 v.real, .bool v.flag, .slice none 0 0]) rfl rfl (run_loadVar_mid (P := Tryz.prog) _ _ 0 26 _ _ hrR.out Tryz.underlying26 rfl infoVal)) rfl ?_
      exact ⟨none, 0, by rw [hvl.out]; rfl, rv_leaf _ hvl.out, hff.out, by rw [show at_ + (1 + u) = at_ + 1 + u by omega]; exact hrs.out⟩
    · clear hn
      go_wp2_with fail
      refine hsh.out.mono ?_
      rintro e W7 ⟨he, hb⟩
      rw [if_pos ok.out] at he
      subst he
      have h7 := h6.out.grow hb
      have hf7 := hf06.out.trans (fr_of_below (g := g) hb)
      have hz7 : W7.rangeAt w.heap.size 0 [.int .i64 0, .string ⟨#[]⟩, .int .i64 0, .float .f64 0, .bool false, .slice none 0 0] := fun q x hq => by rw [(hb).cell (World.block_lt_of_cell? _ _ (hz6.out q x hq))]; exact hz6.out q x hq
      have hk7 : Blk W7 w.heap.size := hk6.out.of_block ((hb).block _ hk6.out.lt)
      replace h7 := Lib.hid h7
      replace hf7 := Lib.hid hf7
      replace hz7 := Lib.hid hz7
      replace hk7 := Lib.hid hk7
      clear hb
      have htC := there_of (n := 6) hz7.out hk7.out rfl
      have hrR : (W7.setCells w.heap.size 0 [.int .i64 v.kind, .string v.text, .int .i64 v.int, .float .f64 v.real, .bool v.flag, .slice none 0 0]).rangeAt w.heap.size 0 [.int .i64 v.kind, .string v.text, .int .i64 v.int, .float .f64 v.real, .bool v.flag, .slice none 0 0] := World.rangeAt_setCells_same _ _ _ _ htC
      have hfw : Fr (fun k => k = w.heap.size) W7 (W7.setCells w.heap.size 0 [.int .i64 v.kind, .string v.text, .int .i64 v.int, .float .f64 v.real, .bool v.flag, .slice none 0 0]) := Fr.setCells (S := fun k => k = w.heap.size) (fun _ => rfl) _ _ _ (Fr.refl _ _)
      have hff := hf7.out.trans_new hfw (fun i hi e => by omega)
      have hrs : RS rp w0 (W7.setCells w.heap.size 0 [.int .i64 v.kind, .string v.text, .int .i64 v.int, .float .f64 v.real, .bool v.flag, .slice none 0 0]) g b o n cap s _ many := ⟨h7.out.scan.fr hfw (by omega) (by omega), h7.out.env, h7.out.below.trans (hfw.below h7.out.below.size (fun i hi e => by have := h7.out.below.size; have := h7.out.base; omega)), h7.out.base, h7.out.le⟩
      replace htC := Lib.hid htC
      replace hrR := Lib.hid hrR
      replace hff := Lib.hid hff
      replace hrs := Lib.hid hrs
      clear hfw
      go_wp2_with (refine wpList_store_mid rfl 26 _ _ rfl w.heap.size 0 _ rfl rfl htC.out infoVal (one6 _ _ _ _ _ _ _ _) ?_)
      refine bodyPost_ret (results_cell1 (v := .agg #[.int .i64 v.kind, .string v.text, .int .i64 v.int, .float .f64 v.real, .bool v.flag, .slice none 0 0]) rfl rfl (run_loadVar_mid (P := Tryz.prog) _ _ 0 26 _ _ hrR.out Tryz.underlying26 rfl infoVal)) rfl ?_
      exact ⟨none, 0, by rw [hvl.out]; rfl, rv_leaf _ hvl.out, hff.out, by rw [show at_ + (1 + u) = at_ + 1 + u by omega]; exact hrs.out⟩
    · clear hn
      go_wp2_with fail
      refine hsh.out.mono ?_
      rintro e W7 ⟨he, hb⟩
      rw [if_pos ok.out] at he
      subst he
      have h7 := h6.out.grow hb
      have hf7 := hf06.out.trans (fr_of_below (g := g) hb)
      have hz7 : W7.rangeAt w.heap.size 0 [.int .i64 0, .string ⟨#[]⟩, .int .i64 0, .float .f64 0, .bool false, .slice none 0 0] := fun q x hq => by rw [(hb).cell (World.block_lt_of_cell? _ _ (hz6.out q x hq))]; exact hz6.out q x hq
      have hk7 : Blk W7 w.heap.size := hk6.out.of_block ((hb).block _ hk6.out.lt)
      replace h7 := Lib.hid h7
      replace hf7 := Lib.hid hf7
      replace hz7 := Lib.hid hz7
      replace hk7 := Lib.hid hk7
      clear hb
      have htC := there_of (n := 6) hz7.out hk7.out rfl
      have hrR : (W7.setCells w.heap.size 0 [.int .i64 v.kind, .string v.text, .int .i64 v.int, .float .f64 v.real, .bool v.flag, .slice none 0 0]).rangeAt w.heap.size 0 [.int .i64 v.kind, .string v.text, .int .i64 v.int, .float .f64 v.real, .bool v.flag, .slice none 0 0] := World.rangeAt_setCells_same _ _ _ _ htC
      have hfw : Fr (fun k => k = w.heap.size) W7 (W7.setCells w.heap.size 0 [.int .i64 v.kind, .string v.text, .int .i64 v.int, .float .f64 v.real, .bool v.flag, .slice none 0 0]) := Fr.setCells (S := fun k => k = w.heap.size) (fun _ => rfl) _ _ _ (Fr.refl _ _)
      have hff := hf7.out.trans_new hfw (fun i hi e => by omega)
      have hrs : RS rp w0 (W7.setCells w.heap.size 0 [.int .i64 v.kind, .string v.text, .int .i64 v.int, .float .f64 v.real, .bool v.flag, .slice none 0 0]) g b o n cap s _ many := ⟨h7.out.scan.fr hfw (by omega) (by omega), h7.out.env, h7.out.below.trans (hfw.below h7.out.below.size (fun i hi e => by have := h7.out.below.size; have := h7.out.base; omega)), h7.out.base, h7.out.le⟩
      replace htC := Lib.hid htC
      replace hrR := Lib.hid hrR
      replace hff := Lib.hid hff
      replace hrs := Lib.hid hrs
      clear hfw
      go_wp2_with (refine wpList_store_mid rfl 26 _ _ rfl w.heap.size 0 _ rfl rfl htC.out infoVal (one6 _ _ _ _ _ _ _ _) ?_)
      refine bodyPost_ret (results_cell1 (v := .agg #[.int .i64 v.kind, .string v.text, .int .i64 v.int, .float .f64 v.real, .bool v.flag, .slice none 0 0]) rfl rfl (run_loadVar_mid (P := Tryz.prog) _ _ 0 26 _ _ hrR.out Tryz.underlying26 rfl infoVal)) rfl ?_
      exact ⟨none, 0, by rw [hvl.out]; rfl, rv_leaf _ hvl.out, hff.out, by rw [show at_ + (1 + u) = at_ + 1 + u by omega]; exact hrs.out⟩
    · clear hn
      go_wp2_with fail
      refine hsh.out.mono ?_
      rintro e W7 ⟨he, hb⟩
      rw [if_pos ok.out] at he
      subst he
      have h7 := h6.out.grow hb
      have hf7 := hf06.out.trans (fr_of_below (g := g) hb)
      have hz7 : W7.rangeAt w.heap.size 0 [.int .i64 0, .string ⟨#[]⟩, .int .i64 0, .float .f64 0, .bool false, .slice none 0 0] := fun q x hq => by rw [(hb).cell (World.block_lt_of_cell? _ _ (hz6.out q x hq))]; exact hz6.out q x hq
      have hk7 : Blk W7 w.heap.size := hk6.out.of_block ((hb).block _ hk6.out.lt)
      replace h7 := Lib.hid h7
      replace hf7 := Lib.hid hf7
      replace hz7 := Lib.hid hz7
      replace hk7 := Lib.hid hk7
      clear hb
      have htC := there_of (n := 6) hz7.out hk7.out rfl
      have hrR : (W7.setCells w.heap.size 0 [.int .i64 v.kind, .string v.text, .int .i64 v.int, .float .f64 v.real, .bool v.flag, .slice none 0 0]).rangeAt w.heap.size 0 [.int .i64 v.kind, .string v.text, .int .i64 v.int, .float .f64 v.real, .bool v.flag, .slice none 0 0] := World.rangeAt_setCells_same _ _ _ _ htC
      have hfw : Fr (fun k => k = w.heap.size) W7 (W7.setCells w.heap.size 0 [.int .i64 v.kind, .string v.text, .int .i64 v.int, .float .f64 v.real, .bool v.flag, .slice none 0 0]) := Fr.setCells (S := fun k => k = w.heap.size) (fun _ => rfl) _ _ _ (Fr.refl _ _)
      have hff := hf7.out.trans_new hfw (fun i hi e => by omega)
      have hrs : RS rp w0 (W7.setCells w.heap.size 0 [.int .i64 v.kind, .string v.text, .int .i64 v.int, .float .f64 v.real, .bool v.flag, .slice none 0 0]) g b o n cap s _ many := ⟨h7.out.scan.fr hfw (by omega) (by omega), h7.out.env, h7.out.below.trans (hfw.below h7.out.below.size (fun i hi e => by have := h7.out.below.size; have := h7.out.base; omega)), h7.out.base, h7.out.le⟩
      replace htC := Lib.hid htC
      replace hrR := Lib.hid hrR
      replace hff := Lib.hid hff
      replace hrs := Lib.hid hrs
      clear hfw
      go_wp2_with (refine wpList_store_mid rfl 26 _ _ rfl w.heap.size 0 _ rfl rfl htC.out infoVal (one6 _ _ _ _ _ _ _ _) ?_)
      refine bodyPost_ret (results_cell1 (v := .agg #[.int .i64 v.kind, .string v.text, .int .i64 v.int, .float .f64 v.real, .bool v.flag, .slice none 0 0]) rfl rfl (run_loadVar_mid (P := Tryz.prog) _ _ 0 26 _ _ hrR.out Tryz.underlying26 rfl infoVal)) rfl ?_
      exact ⟨none, 0, by rw [hvl.out]; rfl, rv_leaf _ hvl.out, hff.out, by rw [show at_ + (1 + u) = at_ + 1 + u by omega]; exact hrs.out⟩
    · clear hn
      go_wp2_with fail
      refine hsh.out.mono ?_
      rintro e W7 ⟨he, hb⟩
      rw [if_pos ok.out] at he
      subst he
      have h7 := h6.out.grow hb
      have hf7 := hf06.out.trans (fr_of_below (g := g) hb)
      have hz7 : W7.rangeAt w.heap.size 0 [.int .i64 0, .string ⟨#[]⟩, .int .i64 0, .float .f64 0, .bool false, .slice none 0 0] := fun q x hq => by rw [(hb).cell (World.block_lt_of_cell? _ _ (hz6.out q x hq))]; exact hz6.out q x hq
      have hk7 : Blk W7 w.heap.size := hk6.out.of_block ((hb).block _ hk6.out.lt)
      replace h7 := Lib.hid h7
      replace hf7 := Lib.hid hf7
      replace hz7 := Lib.hid hz7
      replace hk7 := Lib.hid hk7
      clear hb
      have htC := there_of (n := 6) hz7.out hk7.out rfl
      have hrR : (W7.setCells w.heap.size 0 [.int .i64 v.kind, .string v.text, .int .i64 v.int, .float .f64 v.real, .bool v.flag, .slice none 0 0]).rangeAt w.heap.size 0 [.int .i64 v.kind, .string v.text, .int .i64 v.int, .float .f64 v.real, .bool v.flag, .slice none 0 0] := World.rangeAt_setCells_same _ _ _ _ htC
      have hfw : Fr (fun k => k = w.heap.size) W7 (W7.setCells w.heap.size 0 [.int .i64 v.kind, .string v.text, .int .i64 v.int, .float .f64 v.real, .bool v.flag, .slice none 0 0]) := Fr.setCells (S := fun k => k = w.heap.size) (fun _ => rfl) _ _ _ (Fr.refl _ _)
      have hff := hf7.out.trans_new hfw (fun i hi e => by omega)
      have hrs : RS rp w0 (W7.setCells w.heap.size 0 [.int .i64 v.kind, .string v.text, .int .i64 v.int, .float .f64 v.real, .bool v.flag, .slice none 0 0]) g b o n cap s _ many := ⟨h7.out.scan.fr hfw (by omega) (by omega), h7.out.env, h7.out.below.trans (hfw.below h7.out.below.size (fun i hi e => by have := h7.out.below.size; have := h7.out.base; omega)), h7.out.base, h7.out.le⟩
      replace htC := Lib.hid htC
      replace hrR := Lib.hid hrR
      replace hff := Lib.hid hff
      replace hrs := Lib.hid hrs
      clear hfw
      go_wp2_with (refine wpList_store_mid rfl 26 _ _ rfl w.heap.size 0 _ rfl rfl htC.out infoVal (one6 _ _ _ _ _ _ _ _) ?_)
      refine bodyPost_ret (results_cell1 (v := .agg #[.int .i64 v.kind, .string v.text, .int .i64 v.int, .float .f64 v.real, .bool v.flag, .slice none 0 0]) rfl rfl (run_loadVar_mid (P := Tryz.prog) _ _ 0 26 _ _ hrR.out Tryz.underlying26 rfl infoVal)) rfl ?_
      exact ⟨none, 0, by rw [hvl.out]; rfl, rv_leaf _ hvl.out, hff.out, by rw [show at_ + (1 + u) = at_ + 1 + u by omega]; exact hrs.out⟩
    · clear hn
      go_wp2_with fail
      refine hsh.out.mono ?_
      rintro e W7 ⟨he, hb⟩
      rw [if_pos ok.out] at he
      subst he
      have h7 := h6.out.grow hb
      have hf7 := hf06.out.trans (fr_of_below (g := g) hb)
      have hz7 : W7.rangeAt w.heap.size 0 [.int .i64 0, .string ⟨#[]⟩, .int .i64 0, .float .f64 0, .bool false, .slice none 0 0] := fun q x hq => by rw [(hb).cell (World.block_lt_of_cell? _ _ (hz6.out q x hq))]; exact hz6.out q x hq
      have hk7 : Blk W7 w.heap.size := hk6.out.of_block ((hb).block _ hk6.out.lt)
      replace h7 := Lib.hid h7
      replace hf7 := Lib.hid hf7
      replace hz7 := Lib.hid hz7
      replace hk7 := Lib.hid hk7
      clear hb
      have htC := there_of (n := 6) hz7.out hk7.out rfl
      have hrR : (W7.setCells w.heap.size 0 [.int .i64 v.kind, .string v.text, .int .i64 v.int, .float .f64 v.real, .bool v.flag, .slice none 0 0]).rangeAt w.heap.size 0 [.int .i64 v.kind, .string v.text, .int .i64 v.int, .float .f64 v.real, .bool v.flag, .slice none 0 0] := World.rangeAt_setCells_same _ _ _ _ htC
      have hfw : Fr (fun k => k = w.heap.size) W7 (W7.setCells w.heap.size 0 [.int .i64 v.kind, .string v.text, .int .i64 v.int, .float .f64 v.real, .bool v.flag, .slice none 0 0]) := Fr.setCells (S := fun k => k = w.heap.size) (fun _ => rfl) _ _ _ (Fr.refl _ _)
      have hff := hf7.out.trans_new hfw (fun i hi e => by omega)
      have hrs : RS rp w0 (W7.setCells w.heap.size 0 [.int .i64 v.kind, .string v.text, .int .i64 v.int, .float .f64 v.real, .bool v.flag, .slice none 0 0]) g b o n cap s _ many := ⟨h7.out.scan.fr hfw (by omega) (by omega), h7.out.env, h7.out.below.trans (hfw.below h7.out.below.size (fun i hi e => by have := h7.out.below.size; have := h7.out.base; omega)), h7.out.base, h7.out.le⟩
      replace htC := Lib.hid htC
      replace hrR := Lib.hid hrR
      replace hff := Lib.hid hff
      replace hrs := Lib.hid hrs
      clear hfw
      go_wp2_with (refine wpList_store_mid rfl 26 _ _ rfl w.heap.size 0 _ rfl rfl htC.out infoVal (one6 _ _ _ _ _ _ _ _) ?_)
      refine bodyPost_ret (results_cell1 (v := .agg #[.int .i64 v.kind, .string v.text, .int .i64 v.int, .float .f64 v.real, .bool v.flag, .slice none 0 0]) rfl rfl (run_loadVar_mid (P := Tryz.prog) _ _ 0 26 _ _ hrR.out Tryz.underlying26 rfl infoVal)) rfl ?_
      exact ⟨none, 0, by rw [hvl.out]; rfl, rv_leaf _ hvl.out, hff.out, by rw [show at_ + (1 + u) = at_ + 1 + u by omega]; exact hrs.out⟩
set_option maxRecDepth 100000 in
set_option maxHeartbeats 6400000 in
theorem value_sbad {rp : Rp} {w0 w : World} {g b o n cap at_ many u : Nat} {s : ByteArray} {d : Int} {c : UInt8} {t L : List UInt8} {v : V} (h : RS rp w0 w g b o n cap s at_ many) (hL : s.data.toList.drop at_ = c :: L)
    (hk : kindR c = 1 ∨ kindR c = 2 ∨ kindR c = 9 ∨ kindR c = 3 ∨ kindR c = 7 ∨ kindR c = 8 ∨ kindR c = 6) (hl : lineS L = .got (t, u)) (hK : kindR c = 7 → rp.K t) (ho : shortO (rp t) (kindR c) ⟨t.toArray⟩ = some v) (ok : ¬ okV v = true) :
    Calls Tryz.prog 46 #[.pointer (some ⟨g, 0, none⟩), .int .i64 d] w fun e w' => e = stopE 51 ∧ Fr (fun k => k = g) w w' := by
  have hn : True ∧ kindR c = kindR c := ⟨trivial, rfl⟩
  replace ok := Lib.hid ok
  replace hK := Lib.hid hK
  obtain ⟨kd, hkd⟩ : ∃ kd, kd = kindR c := ⟨_, rfl⟩
  rw [← hkd] at hk hn
  have hlen := line_len hl
  have hts : (⟨t.toArray⟩ : ByteArray).size ≤ 1000000 := by
    rw [size_r]; show t.length ≤ _; omega
  have htl : ((⟨t.toArray⟩ : ByteArray).toList == [45, 49]) = decide (t = [45, 49]) := by
    rw [ByteArray.toList_eq]
    show (t == [45, 49]) = _
    rw [Bool.eq_iff_iff, beq_iff_eq, decide_eq_true_eq]
  replace hl := Lib.hid hl
  have hlt : at_ < n := by
    rcases Nat.lt_or_ge at_ n with hh | hh
    · exact hh
    · rw [List.drop_of_length_le (by rw [← size_r, h.scan.size]; exact hh)] at hL; cases hL
  have hai : ¬ (n : Int) ≤ (at_ : Int) := by omega
  have hai2 : (at_ : Int) < (n : Int) := by omega
  have hbig := h.scan.big
  obtain ⟨hcel, hL2⟩ : w.cell? ⟨b, o + at_, none⟩ = some (.int .u8 (c.toNat : Int)) ∧ s.data.toList.drop (at_ + 1) = L := by
    have hz := h.scan.size
    have h1 := h.scan.bytes at_ (by omega)
    have e1 := Lib.data_getElem? s at_ (by omega)
    have e2 : s.data.toList[at_]? = some c := by
      have := congrArg (·[0]?) hL
      simp only [List.getElem?_drop, Nat.add_zero] at this
      exact this
    rw [e1] at e2
    rw [h1, Option.some.inj e2]
    refine ⟨rfl, ?_⟩
    rw [← List.drop_drop, hL]; rfl
  have hcb := World.block_lt_of_cell? _ _ hcel
  replace hcb : b < w.heap.size := hcb
  replace hL := Lib.hid hL
  replace hL2 := Lib.hid hL2
  replace hcel := Lib.hid hcel
  obtain ⟨W1, hW1⟩ : ∃ W1, W1 = w.alloc (.cells #[.int .i64 0, .string ⟨#[]⟩, .int .i64 0, .float .f64 0, .bool false, .slice none 0 0] 26) := ⟨_, rfl⟩
  have hb1 : Below w.heap.size w W1 := by rw [hW1]; exact (Below.refl _ _).alloc (Nat.le_refl _) _
  have h1 := h.grow hb1
  have hz1 : W1.rangeAt w.heap.size 0 [.int .i64 0, .string ⟨#[]⟩, .int .i64 0, .float .f64 0, .bool false, .slice none 0 0] := by
    rw [hW1]; intro q x hq; rw [Nat.zero_add, World.cell?_alloc_new]; simpa using hq
  have hk1 : Blk W1 w.heap.size := by rw [hW1]; exact Blk.new _ _ _
  have c0 := h1.scan.c0
  have c1 := h1.scan.c1
  have hgl : g < W1.heap.size := h1.scan.blk.lt
  have hgw : g < w.heap.size := h.scan.blk.lt
  replace hW1 := Lib.hid hW1
  replace hb1 := Lib.hid hb1
  replace h1 := Lib.hid h1
  replace hz1 := Lib.hid hz1
  replace hk1 := Lib.hid hk1
  replace h := Lib.hid h
  go_enter Tryz.func46, Tryz.ntmps46
  go_wp2_with fail
  rw [← hW1.out]
  refine wp_region_grow (by kernel_rfl) (by kernel_rfl) ?_
  repeat (go_big_quiet_step ((fail)))
  refine wpQuiet_nil ?_
  rintro _ ⟨xq, rfl⟩
  have hS := grow_below W1 xq
  obtain ⟨W2, hW2⟩ : ∃ W2, W2 = grow W1 xq := ⟨_, rfl⟩
  rw [← hW2] at hS ⊢
  replace hW2 := Lib.hid hW2
  have h2 := h1.out.grow hS
  have hb2 : Below w.heap.size w W2 := hb1.out.trans (hS.mono hb1.out.size)
  have hz2 : W2.rangeAt w.heap.size 0 [.int .i64 0, .string ⟨#[]⟩, .int .i64 0, .float .f64 0, .bool false, .slice none 0 0] := fun q x hq => by rw [hS.cell (World.block_lt_of_cell? _ _ (hz1.out q x hq))]; exact hz1.out q x hq
  have hk2 : Blk W2 w.heap.size := hk1.out.of_block (hS.block _ hk1.out.lt)
  clear c0 c1 hS
  replace h2 := Lib.hid h2
  replace hb2 := Lib.hid hb2
  replace hz2 := Lib.hid hz2
  replace hk2 := Lib.hid hk2
  have c0 := h2.out.scan.c0
  have c1 := h2.out.scan.c1
  have cc := (hb2.out.cell (p := ⟨b, o + at_, none⟩) hcb).trans hcel.out
  have hgl2 : g < W2.heap.size := h2.out.scan.blk.lt
  have hbl2 : b < W2.heap.size := Nat.lt_of_lt_of_le hcb hb2.out.size
  go_wp2_with fail
  refine wp_region_grow (by kernel_rfl) (by kernel_rfl) ?_
  repeat (go_big_quiet_step ((go_at_call 63; (with_reducible exact quiet_grow (kinds_grow _ _)))))
  refine wpQuiet_nil ?_
  rintro _ ⟨xq, rfl⟩
  have hS := grow_below W2 xq
  obtain ⟨W3, hW3⟩ : ∃ W3, W3 = grow W2 xq := ⟨_, rfl⟩
  rw [← hW3] at hS ⊢
  replace hW3 := Lib.hid hW3
  have h3 := h2.out.grow hS
  have hb3 : Below w.heap.size w W3 := hb2.out.trans (hS.mono hb2.out.size)
  have hz3 : W3.rangeAt w.heap.size 0 [.int .i64 0, .string ⟨#[]⟩, .int .i64 0, .float .f64 0, .bool false, .slice none 0 0] := fun q x hq => by rw [hS.cell (World.block_lt_of_cell? _ _ (hz2.out q x hq))]; exact hz2.out q x hq
  have hk3 : Blk W3 w.heap.size := hk2.out.of_block (hS.block _ hk2.out.lt)
  clear c0 c1 hS cc
  replace h3 := Lib.hid h3
  replace hb3 := Lib.hid hb3
  replace hz3 := Lib.hid hz3
  replace hk3 := Lib.hid hk3
  rw [← hkd]
  have hk0 : ((kd : Int) == 0) = false := by simp; omega
  replace hkd := Lib.hid hkd
  have c1 := h3.out.scan.c1
  have fz := h3.out.scan.blk.frz 1 none
  go_wp2_with fail
  have e4 : (at_ : Int) + 1 = ((at_ + 1 : Nat) : Int) := by omega
  rw [e4]
  have hf4 : Fr (fun k => k = g) w (W3.setCell ⟨g, 1, none⟩ (.int .i64 ((at_ + 1 : Nat) : Int))) := Fr.setCell (S := fun k => k = g) (fr_of_below hb3.out) (fun _ => rfl) _
  have h4 : RS rp w0 (W3.setCell ⟨g, 1, none⟩ (.int .i64 ((at_ + 1 : Nat) : Int))) g b o n cap s (at_ + 1) many := h3.out.next (Fr.setCell (S := fun k => k = g) (Fr.refl _ _) (fun _ => rfl) _) (h3.out.scan.move _) (by omega)
  have hz4 : (W3.setCell ⟨g, 1, none⟩ (.int .i64 ((at_ + 1 : Nat) : Int))).rangeAt w.heap.size 0 [.int .i64 0, .string ⟨#[]⟩, .int .i64 0, .float .f64 0, .bool false, .slice none 0 0] := fun q x hq => by
    rw [cell_set_ne (fun e => by have := congrArg Addr.block e; simp at this; omega)]; exact hz3.out q x hq
  have hk4 : Blk (W3.setCell ⟨g, 1, none⟩ (.int .i64 ((at_ + 1 : Nat) : Int))) w.heap.size := hk3.out.setCell _ _
  generalize W3.setCell ⟨g, 1, none⟩ (.int .i64 ((at_ + 1 : Nat) : Int)) = W4 at *
  clear c1 fz e4
  replace h4 := Lib.hid h4
  replace hf4 := Lib.hid hf4
  replace hz4 := Lib.hid hz4
  replace hk4 := Lib.hid hk4
  refine (line_got h4.out.scan h4.out.le (by rw [hL2.out]; exact hl.out)).mono ?_
  rintro e W6 ⟨rfl, hf6, hs6, hle6⟩
  have h6 := h4.out.next hf6 hs6 hle6
  have hf06 := hf4.out.trans hf6
  have hne6 : ¬ w.heap.size = g := by omega
  have hz6 : W6.rangeAt w.heap.size 0 [.int .i64 0, .string ⟨#[]⟩, .int .i64 0, .float .f64 0, .bool false, .slice none 0 0] := fun q x hq => hf6.cell (hz4.out q x hq) hne6
  have hk6 : Blk W6 w.heap.size := hk4.out.fr hf6 hne6
  clear hf6 hs6 hle6
  replace h6 := Lib.hid h6
  replace hf06 := Lib.hid hf06
  replace hz6 := Lib.hid hz6
  replace hk6 := Lib.hid hk6
  have hsh := short_any (w := W6) (k := kd) (t := ⟨t.toArray⟩) (o := rp t) hk hts h6.out.nums (fun hk7 W hW => h6.out.env.real W (h6.out.grow hW).below t (hK.out (by rw [← hkd.out]; exact hk7)))
  rw [hkd.out, ho] at hsh
  unfold ShortQ at hsh
  dsimp only at hsh
  rw [← hkd.out] at hsh
  replace hsh := Lib.hid hsh
  clear ho hlen hts
  generalize (⟨t.toArray⟩ : ByteArray) = T at *
  have hd45 : (decide (t = [45, 49])) = true ∨ (decide (t = [45, 49])) = false := by cases decide (t = [45, 49]) <;> simp
  generalize decide (t = [45, 49]) = D at *
  replace hn := Lib.hid hn
  rcases hd45 with rfl | rfl
  · rcases hk with rfl | rfl | rfl | rfl | rfl | rfl | rfl
    · clear hn
      go_wp2_with fail
      refine hsh.out.mono ?_
      rintro e W7 ⟨he, hb⟩
      rw [if_neg ok.out] at he
      subst he
      exact ⟨rfl, rfl, hf06.out.trans (fr_of_below (g := g) hb)⟩
    · clear hn
      go_wp2_with fail
      refine hsh.out.mono ?_
      rintro e W7 ⟨he, hb⟩
      rw [if_neg ok.out] at he
      subst he
      exact ⟨rfl, rfl, hf06.out.trans (fr_of_below (g := g) hb)⟩
    · clear hn
      go_wp2_with fail
      refine hsh.out.mono ?_
      rintro e W7 ⟨he, hb⟩
      rw [if_neg ok.out] at he
      subst he
      exact ⟨rfl, rfl, hf06.out.trans (fr_of_below (g := g) hb)⟩
    · clear hn
      go_wp2_with fail
      refine hsh.out.mono ?_
      rintro e W7 ⟨he, hb⟩
      rw [if_neg ok.out] at he
      subst he
      exact ⟨rfl, rfl, hf06.out.trans (fr_of_below (g := g) hb)⟩
    · clear hn
      go_wp2_with fail
      refine hsh.out.mono ?_
      rintro e W7 ⟨he, hb⟩
      rw [if_neg ok.out] at he
      subst he
      exact ⟨rfl, rfl, hf06.out.trans (fr_of_below (g := g) hb)⟩
    · clear hn
      go_wp2_with fail
      refine hsh.out.mono ?_
      rintro e W7 ⟨he, hb⟩
      rw [if_neg ok.out] at he
      subst he
      exact ⟨rfl, rfl, hf06.out.trans (fr_of_below (g := g) hb)⟩
    · clear hn
      go_wp2_with fail
      refine hsh.out.mono ?_
      rintro e W7 ⟨he, hb⟩
      rw [if_neg ok.out] at he
      subst he
      exact ⟨rfl, rfl, hf06.out.trans (fr_of_below (g := g) hb)⟩
  · rcases hk with rfl | rfl | rfl | rfl | rfl | rfl | rfl
    · clear hn
      go_wp2_with fail
      refine hsh.out.mono ?_
      rintro e W7 ⟨he, hb⟩
      rw [if_neg ok.out] at he
      subst he
      exact ⟨rfl, rfl, hf06.out.trans (fr_of_below (g := g) hb)⟩
    · clear hn
      go_wp2_with fail
      refine hsh.out.mono ?_
      rintro e W7 ⟨he, hb⟩
      rw [if_neg ok.out] at he
      subst he
      exact ⟨rfl, rfl, hf06.out.trans (fr_of_below (g := g) hb)⟩
    · clear hn
      go_wp2_with fail
      refine hsh.out.mono ?_
      rintro e W7 ⟨he, hb⟩
      rw [if_neg ok.out] at he
      subst he
      exact ⟨rfl, rfl, hf06.out.trans (fr_of_below (g := g) hb)⟩
    · clear hn
      go_wp2_with fail
      refine hsh.out.mono ?_
      rintro e W7 ⟨he, hb⟩
      rw [if_neg ok.out] at he
      subst he
      exact ⟨rfl, rfl, hf06.out.trans (fr_of_below (g := g) hb)⟩
    · clear hn
      go_wp2_with fail
      refine hsh.out.mono ?_
      rintro e W7 ⟨he, hb⟩
      rw [if_neg ok.out] at he
      subst he
      exact ⟨rfl, rfl, hf06.out.trans (fr_of_below (g := g) hb)⟩
    · clear hn
      go_wp2_with fail
      refine hsh.out.mono ?_
      rintro e W7 ⟨he, hb⟩
      rw [if_neg ok.out] at he
      subst he
      exact ⟨rfl, rfl, hf06.out.trans (fr_of_below (g := g) hb)⟩
    · clear hn
      go_wp2_with fail
      refine hsh.out.mono ?_
      rintro e W7 ⟨he, hb⟩
      rw [if_neg ok.out] at he
      subst he
      exact ⟨rfl, rfl, hf06.out.trans (fr_of_below (g := g) hb)⟩
set_option maxRecDepth 100000 in
set_option maxHeartbeats 6400000 in
theorem value_snone {rp : Rp} {w0 w : World} {g b o n cap at_ many u : Nat} {s : ByteArray} {d : Int} {c : UInt8} {t L : List UInt8} (h : RS rp w0 w g b o n cap s at_ many) (hL : s.data.toList.drop at_ = c :: L)
    (hk : kindR c = 1 ∨ kindR c = 2 ∨ kindR c = 9 ∨ kindR c = 3 ∨ kindR c = 7 ∨ kindR c = 8 ∨ kindR c = 6) (hl : lineS L = .got (t, u)) (hK : kindR c = 7 → rp.K t) (ho : shortO (rp t) (kindR c) ⟨t.toArray⟩ = none) :
    Calls Tryz.prog 46 #[.pointer (some ⟨g, 0, none⟩), .int .i64 d] w fun e w' => e = stopE 51 ∧ Fr (fun k => k = g) w w' := by
  have hn : True ∧ kindR c = kindR c := ⟨trivial, rfl⟩
  replace hK := Lib.hid hK
  obtain ⟨kd, hkd⟩ : ∃ kd, kd = kindR c := ⟨_, rfl⟩
  rw [← hkd] at hk hn
  have hlen := line_len hl
  have hts : (⟨t.toArray⟩ : ByteArray).size ≤ 1000000 := by
    rw [size_r]; show t.length ≤ _; omega
  have htl : ((⟨t.toArray⟩ : ByteArray).toList == [45, 49]) = decide (t = [45, 49]) := by
    rw [ByteArray.toList_eq]
    show (t == [45, 49]) = _
    rw [Bool.eq_iff_iff, beq_iff_eq, decide_eq_true_eq]
  replace hl := Lib.hid hl
  have hlt : at_ < n := by
    rcases Nat.lt_or_ge at_ n with hh | hh
    · exact hh
    · rw [List.drop_of_length_le (by rw [← size_r, h.scan.size]; exact hh)] at hL; cases hL
  have hai : ¬ (n : Int) ≤ (at_ : Int) := by omega
  have hai2 : (at_ : Int) < (n : Int) := by omega
  have hbig := h.scan.big
  obtain ⟨hcel, hL2⟩ : w.cell? ⟨b, o + at_, none⟩ = some (.int .u8 (c.toNat : Int)) ∧ s.data.toList.drop (at_ + 1) = L := by
    have hz := h.scan.size
    have h1 := h.scan.bytes at_ (by omega)
    have e1 := Lib.data_getElem? s at_ (by omega)
    have e2 : s.data.toList[at_]? = some c := by
      have := congrArg (·[0]?) hL
      simp only [List.getElem?_drop, Nat.add_zero] at this
      exact this
    rw [e1] at e2
    rw [h1, Option.some.inj e2]
    refine ⟨rfl, ?_⟩
    rw [← List.drop_drop, hL]; rfl
  have hcb := World.block_lt_of_cell? _ _ hcel
  replace hcb : b < w.heap.size := hcb
  replace hL := Lib.hid hL
  replace hL2 := Lib.hid hL2
  replace hcel := Lib.hid hcel
  obtain ⟨W1, hW1⟩ : ∃ W1, W1 = w.alloc (.cells #[.int .i64 0, .string ⟨#[]⟩, .int .i64 0, .float .f64 0, .bool false, .slice none 0 0] 26) := ⟨_, rfl⟩
  have hb1 : Below w.heap.size w W1 := by rw [hW1]; exact (Below.refl _ _).alloc (Nat.le_refl _) _
  have h1 := h.grow hb1
  have hz1 : W1.rangeAt w.heap.size 0 [.int .i64 0, .string ⟨#[]⟩, .int .i64 0, .float .f64 0, .bool false, .slice none 0 0] := by
    rw [hW1]; intro q x hq; rw [Nat.zero_add, World.cell?_alloc_new]; simpa using hq
  have hk1 : Blk W1 w.heap.size := by rw [hW1]; exact Blk.new _ _ _
  have c0 := h1.scan.c0
  have c1 := h1.scan.c1
  have hgl : g < W1.heap.size := h1.scan.blk.lt
  have hgw : g < w.heap.size := h.scan.blk.lt
  replace hW1 := Lib.hid hW1
  replace hb1 := Lib.hid hb1
  replace h1 := Lib.hid h1
  replace hz1 := Lib.hid hz1
  replace hk1 := Lib.hid hk1
  replace h := Lib.hid h
  go_enter Tryz.func46, Tryz.ntmps46
  go_wp2_with fail
  rw [← hW1.out]
  refine wp_region_grow (by kernel_rfl) (by kernel_rfl) ?_
  repeat (go_big_quiet_step ((fail)))
  refine wpQuiet_nil ?_
  rintro _ ⟨xq, rfl⟩
  have hS := grow_below W1 xq
  obtain ⟨W2, hW2⟩ : ∃ W2, W2 = grow W1 xq := ⟨_, rfl⟩
  rw [← hW2] at hS ⊢
  replace hW2 := Lib.hid hW2
  have h2 := h1.out.grow hS
  have hb2 : Below w.heap.size w W2 := hb1.out.trans (hS.mono hb1.out.size)
  have hz2 : W2.rangeAt w.heap.size 0 [.int .i64 0, .string ⟨#[]⟩, .int .i64 0, .float .f64 0, .bool false, .slice none 0 0] := fun q x hq => by rw [hS.cell (World.block_lt_of_cell? _ _ (hz1.out q x hq))]; exact hz1.out q x hq
  have hk2 : Blk W2 w.heap.size := hk1.out.of_block (hS.block _ hk1.out.lt)
  clear c0 c1 hS
  replace h2 := Lib.hid h2
  replace hb2 := Lib.hid hb2
  replace hz2 := Lib.hid hz2
  replace hk2 := Lib.hid hk2
  have c0 := h2.out.scan.c0
  have c1 := h2.out.scan.c1
  have cc := (hb2.out.cell (p := ⟨b, o + at_, none⟩) hcb).trans hcel.out
  have hgl2 : g < W2.heap.size := h2.out.scan.blk.lt
  have hbl2 : b < W2.heap.size := Nat.lt_of_lt_of_le hcb hb2.out.size
  go_wp2_with fail
  refine wp_region_grow (by kernel_rfl) (by kernel_rfl) ?_
  repeat (go_big_quiet_step ((go_at_call 63; (with_reducible exact quiet_grow (kinds_grow _ _)))))
  refine wpQuiet_nil ?_
  rintro _ ⟨xq, rfl⟩
  have hS := grow_below W2 xq
  obtain ⟨W3, hW3⟩ : ∃ W3, W3 = grow W2 xq := ⟨_, rfl⟩
  rw [← hW3] at hS ⊢
  replace hW3 := Lib.hid hW3
  have h3 := h2.out.grow hS
  have hb3 : Below w.heap.size w W3 := hb2.out.trans (hS.mono hb2.out.size)
  have hz3 : W3.rangeAt w.heap.size 0 [.int .i64 0, .string ⟨#[]⟩, .int .i64 0, .float .f64 0, .bool false, .slice none 0 0] := fun q x hq => by rw [hS.cell (World.block_lt_of_cell? _ _ (hz2.out q x hq))]; exact hz2.out q x hq
  have hk3 : Blk W3 w.heap.size := hk2.out.of_block (hS.block _ hk2.out.lt)
  clear c0 c1 hS cc
  replace h3 := Lib.hid h3
  replace hb3 := Lib.hid hb3
  replace hz3 := Lib.hid hz3
  replace hk3 := Lib.hid hk3
  rw [← hkd]
  have hk0 : ((kd : Int) == 0) = false := by simp; omega
  replace hkd := Lib.hid hkd
  have c1 := h3.out.scan.c1
  have fz := h3.out.scan.blk.frz 1 none
  go_wp2_with fail
  have e4 : (at_ : Int) + 1 = ((at_ + 1 : Nat) : Int) := by omega
  rw [e4]
  have hf4 : Fr (fun k => k = g) w (W3.setCell ⟨g, 1, none⟩ (.int .i64 ((at_ + 1 : Nat) : Int))) := Fr.setCell (S := fun k => k = g) (fr_of_below hb3.out) (fun _ => rfl) _
  have h4 : RS rp w0 (W3.setCell ⟨g, 1, none⟩ (.int .i64 ((at_ + 1 : Nat) : Int))) g b o n cap s (at_ + 1) many := h3.out.next (Fr.setCell (S := fun k => k = g) (Fr.refl _ _) (fun _ => rfl) _) (h3.out.scan.move _) (by omega)
  have hz4 : (W3.setCell ⟨g, 1, none⟩ (.int .i64 ((at_ + 1 : Nat) : Int))).rangeAt w.heap.size 0 [.int .i64 0, .string ⟨#[]⟩, .int .i64 0, .float .f64 0, .bool false, .slice none 0 0] := fun q x hq => by
    rw [cell_set_ne (fun e => by have := congrArg Addr.block e; simp at this; omega)]; exact hz3.out q x hq
  have hk4 : Blk (W3.setCell ⟨g, 1, none⟩ (.int .i64 ((at_ + 1 : Nat) : Int))) w.heap.size := hk3.out.setCell _ _
  generalize W3.setCell ⟨g, 1, none⟩ (.int .i64 ((at_ + 1 : Nat) : Int)) = W4 at *
  clear c1 fz e4
  replace h4 := Lib.hid h4
  replace hf4 := Lib.hid hf4
  replace hz4 := Lib.hid hz4
  replace hk4 := Lib.hid hk4
  refine (line_got h4.out.scan h4.out.le (by rw [hL2.out]; exact hl.out)).mono ?_
  rintro e W6 ⟨rfl, hf6, hs6, hle6⟩
  have h6 := h4.out.next hf6 hs6 hle6
  have hf06 := hf4.out.trans hf6
  have hne6 : ¬ w.heap.size = g := by omega
  have hz6 : W6.rangeAt w.heap.size 0 [.int .i64 0, .string ⟨#[]⟩, .int .i64 0, .float .f64 0, .bool false, .slice none 0 0] := fun q x hq => hf6.cell (hz4.out q x hq) hne6
  have hk6 : Blk W6 w.heap.size := hk4.out.fr hf6 hne6
  clear hf6 hs6 hle6
  replace h6 := Lib.hid h6
  replace hf06 := Lib.hid hf06
  replace hz6 := Lib.hid hz6
  replace hk6 := Lib.hid hk6
  have hsh := short_any (w := W6) (k := kd) (t := ⟨t.toArray⟩) (o := rp t) hk hts h6.out.nums (fun hk7 W hW => h6.out.env.real W (h6.out.grow hW).below t (hK.out (by rw [← hkd.out]; exact hk7)))
  rw [hkd.out, ho] at hsh
  unfold ShortQ at hsh
  dsimp only at hsh
  rw [← hkd.out] at hsh
  replace hsh := Lib.hid hsh
  clear ho hlen hts
  generalize (⟨t.toArray⟩ : ByteArray) = T at *
  have hd45 : (decide (t = [45, 49])) = true ∨ (decide (t = [45, 49])) = false := by cases decide (t = [45, 49]) <;> simp
  generalize decide (t = [45, 49]) = D at *
  replace hn := Lib.hid hn
  rcases hd45 with rfl | rfl
  · rcases hk with rfl | rfl | rfl | rfl | rfl | rfl | rfl
    · clear hn
      go_wp2_with fail
      refine hsh.out.mono ?_
      rintro e W7 ⟨he, hb⟩
      subst he
      exact ⟨rfl, rfl, hf06.out.trans (fr_of_below (g := g) hb)⟩
    · clear hn
      go_wp2_with fail
      refine hsh.out.mono ?_
      rintro e W7 ⟨he, hb⟩
      subst he
      exact ⟨rfl, rfl, hf06.out.trans (fr_of_below (g := g) hb)⟩
    · clear hn
      go_wp2_with fail
      refine hsh.out.mono ?_
      rintro e W7 ⟨he, hb⟩
      subst he
      exact ⟨rfl, rfl, hf06.out.trans (fr_of_below (g := g) hb)⟩
    · clear hn
      go_wp2_with fail
      refine hsh.out.mono ?_
      rintro e W7 ⟨he, hb⟩
      subst he
      exact ⟨rfl, rfl, hf06.out.trans (fr_of_below (g := g) hb)⟩
    · clear hn
      go_wp2_with fail
      refine hsh.out.mono ?_
      rintro e W7 ⟨he, hb⟩
      subst he
      exact ⟨rfl, rfl, hf06.out.trans (fr_of_below (g := g) hb)⟩
    · clear hn
      go_wp2_with fail
      refine hsh.out.mono ?_
      rintro e W7 ⟨he, hb⟩
      subst he
      exact ⟨rfl, rfl, hf06.out.trans (fr_of_below (g := g) hb)⟩
    · clear hn
      go_wp2_with fail
      refine hsh.out.mono ?_
      rintro e W7 ⟨he, hb⟩
      subst he
      exact ⟨rfl, rfl, hf06.out.trans (fr_of_below (g := g) hb)⟩
  · rcases hk with rfl | rfl | rfl | rfl | rfl | rfl | rfl
    · clear hn
      go_wp2_with fail
      refine hsh.out.mono ?_
      rintro e W7 ⟨he, hb⟩
      subst he
      exact ⟨rfl, rfl, hf06.out.trans (fr_of_below (g := g) hb)⟩
    · clear hn
      go_wp2_with fail
      refine hsh.out.mono ?_
      rintro e W7 ⟨he, hb⟩
      subst he
      exact ⟨rfl, rfl, hf06.out.trans (fr_of_below (g := g) hb)⟩
    · clear hn
      go_wp2_with fail
      refine hsh.out.mono ?_
      rintro e W7 ⟨he, hb⟩
      subst he
      exact ⟨rfl, rfl, hf06.out.trans (fr_of_below (g := g) hb)⟩
    · clear hn
      go_wp2_with fail
      refine hsh.out.mono ?_
      rintro e W7 ⟨he, hb⟩
      subst he
      exact ⟨rfl, rfl, hf06.out.trans (fr_of_below (g := g) hb)⟩
    · clear hn
      go_wp2_with fail
      refine hsh.out.mono ?_
      rintro e W7 ⟨he, hb⟩
      subst he
      exact ⟨rfl, rfl, hf06.out.trans (fr_of_below (g := g) hb)⟩
    · clear hn
      go_wp2_with fail
      refine hsh.out.mono ?_
      rintro e W7 ⟨he, hb⟩
      subst he
      exact ⟨rfl, rfl, hf06.out.trans (fr_of_below (g := g) hb)⟩
    · clear hn
      go_wp2_with fail
      refine hsh.out.mono ?_
      rintro e W7 ⟨he, hb⟩
      subst he
      exact ⟨rfl, rfl, hf06.out.trans (fr_of_below (g := g) hb)⟩
end Go.Proofs.YtagkgfniihiinaaGreatDoor
