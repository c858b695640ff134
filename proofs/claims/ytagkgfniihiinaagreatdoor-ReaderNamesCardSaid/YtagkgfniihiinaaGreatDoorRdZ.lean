/- The reader: Next by what its bytes begin with. -/
import Derived.Test.YtagkgfniihiinaaGreatDoorRdY
namespace Go.Proofs.YtagkgfniihiinaaGreatDoor
open Go.RowKit

theorem Env.below {rp : Rp} {w w' : World} {s s' : ByteArray} (h : Env rp w s) (hb : Below w.heap.size w w') : Env rp w' s' :=
  ⟨h.nums.below hb, fun W hW t ht => h.real W (hb.trans (hW.mono hb.size)) t ht⟩
theorem drop_list (s : ByteArray) (u : Nat) : (s.extract u s.size).data.toList = s.data.toList.drop u := by
  rw [ByteArray.data_extract, Array.toList_extract, List.extract_eq_take_drop, List.take_of_length_le]
  rw [List.length_drop, ← size_r]
  exact Nat.le_refl _
/-- Parse of a buffer. -/
theorem parse_buf {rp : Rp} {B : Nat} {w : World} {v : Value} {s : ByteArray} (h : Buf B w v s) (hbig : s.size ≤ 1000000000) (hE : Env rp w s) (hn : needV rp 8 1 s.data.toList) : Calls Tryz.prog 24 #[v] w (ParseQ (scanV rp 8 1 s.data.toList) w) := by
  rcases h with ⟨rfl, h0⟩ | ⟨b, o, cap, rfl, _, h2, h3, _, h5, _⟩
  · have : s.data.toList = [] := List.length_eq_zero_iff.1 (by rw [← size_r]; exact h0)
    rw [this]
    have e : scanV rp 8 1 [] = .stop 0 := by rw [scanV]; rfl
    rw [e]
    exact parse_nil w
  · exact R2.parse_any h5 rfl h3 hbig hE h2 hn
theorem next_stop0 {rp : Rp} {B r : Nat} {w : World} {v : Value} {s : ByteArray} (h : Rdr B w r v s 0) (hbig : s.size ≤ 1000000000) (hE : Env rp w s) (hn : needV rp 8 1 s.data.toList) (hs : scanV rp 8 1 s.data.toList = .stop 0) :
    Calls Tryz.prog 27 #[.pointer (some ⟨r, 0, none⟩)] w fun e w' => e = .returned (.tuple #[.agg zero6.toArray, .bool false, .int .i64 0]) ∧ (∃ v', Rdr B w' r v' s 0) ∧ Fr (fun k => k = r) w w' := by
  obtain ⟨a, c, hv, _⟩ := h.buf.shape
  have hbuf := h.buf
  rw [hv] at h hbuf
  refine (next_any (u := 0) (kd := 0) (tx := ⟨#[]⟩) (it := 0) (rl := 0) (fl := false) (ln := 0) (X := fun la lc _ _ => la = none ∧ lc = 0) h (Nat.zero_le _) hbig fun W hW => ?_).mono ?_
  · have hp := parse_buf (rp := rp) (hbuf.below hW) hbig (hE.below hW) hn
    rw [hs] at hp
    refine hp.mono ?_
    rintro e w' ⟨rfl, hb⟩
    exact ⟨none, 0, rfl, ⟨rfl, rfl⟩, hb⟩
  · rintro e w' ⟨la, lc, W1, W2, rfl, ⟨rfl, rfl⟩, _, _, ⟨v', hr⟩, hf⟩
    have e0 : s.extract 0 s.size = s := by
      apply ByteArray.ext
      apply Array.toList_inj.1
      rw [drop_list]; rfl
    rw [e0] at hr
    exact ⟨rfl, ⟨v', hr⟩, hf⟩
theorem next_stopq {rp : Rp} {B r q : Nat} {w : World} {v : Value} {s : ByteArray} (h : Rdr B w r v s 0) (hq : q ≠ 0) (hbig : s.size ≤ 1000000000) (hE : Env rp w s) (hn : needV rp 8 1 s.data.toList) (hs : scanV rp 8 1 s.data.toList = .stop q) :
    Calls Tryz.prog 27 #[.pointer (some ⟨r, 0, none⟩)] w fun e w' => e = .returned (.tuple #[.agg zero6.toArray, .bool false, .int .i64 (q : Int)]) ∧ Rdr B w' r (.slice none 0 0) ⟨#[]⟩ q ∧ Fr (fun k => k = r) w w' := by
  obtain ⟨a, c, hv, _⟩ := h.buf.shape
  have hbuf := h.buf
  rw [hv] at h hbuf
  refine next_bad h hq fun W hW => ?_
  have hp := parse_buf (rp := rp) (hbuf.below hW) hbig (hE.below hW) hn
  rw [hs] at hp
  exact hp
theorem next_got {rp : Rp} {B r u m : Nat} {w : World} {v : Value} {s : ByteArray} {x : V} (h : Rdr B w r v s 0) (hu : u ≤ s.size) (hu0 : 0 < u) (hbig : s.size ≤ 1000000000) (hE : Env rp w s) (hn : needV rp 8 1 s.data.toList) (hs : scanV rp 8 1 s.data.toList = .got (x, u, m)) :
    Calls Tryz.prog 27 #[.pointer (some ⟨r, 0, none⟩)] w fun e w' => ∃ (ad : Option Addr) (ca : Nat), e = .returned (.tuple #[.agg #[.int .i64 x.kind, .string x.text, .int .i64 x.int, .float .f64 x.real, .bool x.flag, .slice ad x.list.length ca], .bool true, .int .i64 0]) ∧
      RV (newer w.heap.size w') (cells6 x.kind x.text x.int x.real x.flag ad x.list.length ca) x ∧ (∃ v', Rdr B w' r v' (s.extract u s.size) 0) ∧ Fr (fun k => k = r) w w' := by
  obtain ⟨a, c, hv, _⟩ := h.buf.shape
  have hbuf := h.buf
  rw [hv] at h hbuf
  refine (next_any (u := u) (kd := x.kind) (tx := x.text) (it := x.int) (rl := x.real) (fl := x.flag) (ln := x.list.length) (X := fun la lc W W' => RV (newer W.heap.size W') (cells6 x.kind x.text x.int x.real x.flag la x.list.length lc) x) h hu hbig fun W hW => ?_).mono ?_
  · have hp := parse_buf (rp := rp) (hbuf.below hW) hbig (hE.below hW) hn
    rw [hs] at hp
    refine hp.mono ?_
    rintro e w' ⟨la, lc, rfl, hrv, hb⟩
    exact ⟨la, lc, rfl, hrv, hb⟩
  · rintro e w' ⟨la, lc, W1, W2, rfl, hrv, _, hnew, hr, hf⟩
    exact ⟨la, lc, by rw [decide_eq_true hu0], hrv.mono hnew, hr, hf⟩
/-! ### fixed texts -/
/-- Where no number with a point is read. -/
def rp0 : Rp := ⟨fun _ => none, fun _ => False⟩
theorem env0 {w : World} {s : ByteArray} (h : Nums w) : Env rp0 w s := ⟨h, fun _ _ _ h => h.elim⟩
theorem needH_ne {rp : Rp} {c : UInt8} {L : List UInt8} (h : kindR c ≠ 7) : needH rp (c :: L) := by
  intro c' L' t u e hk _
  exact absurd (by rw [(List.cons.inj e).1]; exact hk) h
theorem scan_stop {rp : Rp} {lv many : Nat} {c : UInt8} {L : List UInt8} {q : Nat} (hc : kindR c ≠ 7) (h : headS rp (c :: L) = .stop q) : scanV rp lv many (c :: L) = .stop q ∧ needV rp lv many (c :: L) := by
  cases lv with
  | zero => exact ⟨by rw [scanV, h], needH_ne hc⟩
  | succ lv => exact ⟨by rw [scanV, h], needH_ne hc, fun kd n u e => by rw [h] at e; cases e⟩
theorem scan_leaf {rp : Rp} {lv many u : Nat} {c : UInt8} {L : List UInt8} {v : V} (hc : kindR c ≠ 7) (h : headS rp (c :: L) = .leaf v u) : scanV rp lv many (c :: L) = .got (v, u, many) ∧ needV rp lv many (c :: L) := by
  cases lv with
  | zero => exact ⟨by rw [scanV, h], needH_ne hc⟩
  | succ lv => exact ⟨by rw [scanV, h], needH_ne hc, fun kd n u e => by rw [h] at e; cases e⟩
/-- A list of one. -/
theorem scan_one {rp : Rp} {lv many kd u q : Nat} {c : UInt8} {L : List UInt8} (hc : kindR c ≠ 7) (h : headS rp (c :: L) = .list kd 1 u) (hm : many + 1 ≤ 1000) (hk : kd ≠ 14) (h2 : scanV rp lv (many + 1) ((c :: L).drop u) = .stop q) (hn : needV rp lv (many + 1) ((c :: L).drop u)) :
    scanV rp (lv + 1) many (c :: L) = .stop q ∧ needV rp (lv + 1) many (c :: L) := by
  refine ⟨?_, needH_ne hc, fun kd n u' e => ?_⟩
  · rw [scanV, h]
    dsimp only
    rw [if_neg (by omega), scanN, h2]
  · rw [h] at e
    simp only [Head.list.injEq] at e
    rw [← e.2.1, ← e.2.2]
    exact ⟨hn, fun v u m hg => by rw [h2] at hg; cases hg⟩
theorem need_nil (rp : Rp) (lv m : Nat) : needV rp lv m [] := by
  have h0 : needH rp [] := by
    intro c L t u e
    cases e
  cases lv with
  | zero => exact h0
  | succ lv =>
    refine ⟨h0, ?_⟩
    intro kd n u e
    rw [show headS rp [] = .stop 0 from rfl] at e
    cases e
def t1 : ByteArray := ⟨#[36, 50, 13, 10, 97]⟩
def t2 : ByteArray := ⟨#[98, 13, 10]⟩
def t3 : ByteArray := ⟨#[42, 45, 49, 13, 10, 58, 53]⟩
def t4 : ByteArray := ⟨#[63]⟩
def t5 : ByteArray := ⟨#[42, 49, 13, 10]⟩
def t6 : ByteArray := ⟨#[42, 49, 13, 10, 62, 49, 13, 10]⟩
def t7 : ByteArray := ⟨#[58, 48, 49, 13, 10]⟩
theorem sc1 : scanV rp0 8 1 t1.data.toList = .stop 0 ∧ needV rp0 8 1 t1.data.toList := scan_stop (by decide) (by kernel_rfl)
theorem sc12 : scanV rp0 8 1 (t1 ++ t2).data.toList = .got (leafV 4 ⟨#[97, 98]⟩ 0 0 false, 8, 1) ∧ needV rp0 8 1 (t1 ++ t2).data.toList := by
  have e : (t1 ++ t2).data.toList = 36 :: [50, 13, 10, 97, 98, 13, 10] := by rw [ByteArray.data_append, Array.toList_append]; rfl
  rw [e]
  exact scan_leaf (by decide) (by kernel_rfl)
theorem sc3 : scanV rp0 8 1 t3.data.toList = .got (leafV 6 ⟨#[]⟩ 0 0 false, 5, 1) ∧ needV rp0 8 1 t3.data.toList := scan_leaf (by decide) (by kernel_rfl)
theorem sc4 : scanV rp0 8 1 t4.data.toList = .stop 51 ∧ needV rp0 8 1 t4.data.toList := scan_stop (by decide) (by kernel_rfl)
theorem sc5 : scanV rp0 8 1 t5.data.toList = .stop 0 ∧ needV rp0 8 1 t5.data.toList :=
  scan_one (lv := 7) (kd := 5) (u := 4) (by decide) (by kernel_rfl) (by decide) (by decide) (by show scanV rp0 7 2 [] = _; rw [scanV]; rfl) (by
    show needV rp0 7 2 []
    exact need_nil _ _ _)
theorem sc6 : scanV rp0 8 1 t6.data.toList = .stop 51 ∧ needV rp0 8 1 t6.data.toList := by
  have h : headS rp0 [62, 49, 13, 10] = .list 14 1 4 := by kernel_rfl
  refine scan_one (lv := 7) (kd := 5) (u := 4) (by decide) (by kernel_rfl) (by decide) (by decide) (show scanV rp0 7 2 [62, 49, 13, 10] = _ from ?_) (show needV rp0 7 2 [62, 49, 13, 10] from ?_)
  · rw [scanV, h]
    dsimp only
    rw [if_pos (by decide)]
  · refine ⟨needH_ne (by decide), fun kd n u e => ?_⟩
    rw [h] at e
    simp only [Head.list.injEq] at e
    rw [← e.2.1, ← e.2.2]
    refine ⟨?_, fun v u m hg => trivial⟩
    exact need_nil _ _ _
theorem sc7 : scanV rp0 8 1 t7.data.toList = .stop 51 ∧ needV rp0 8 1 t7.data.toList := scan_stop (by decide) (by kernel_rfl)
end Go.Proofs.YtagkgfniihiinaaGreatDoor
