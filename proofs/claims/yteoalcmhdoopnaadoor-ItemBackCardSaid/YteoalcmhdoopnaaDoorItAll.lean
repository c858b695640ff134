/- Each of the item's doings at an item that fits, and the document's: one answer. -/
import Derived.Test.YteoalcmhdoopnaaDoorItApp
namespace Go.Proofs.YteoalcmhdoopnaaDoor
open Go.RowKit

def appS (k : Int) (t : ByteArray) (fs : List Fld) (s : ByteArray) : Int × ByteArray × List Fld × Int :=
  if k = 2 then (k, t, fs, 91) else if 4096 < t.size + s.size then (k, t, fs, 94) else (1, t ++ s, [], 0)
def getS (k : Int) (fs : List Fld) (name : ByteArray) : ByteArray × Bool × Int := if k = 1 then (⟨#[]⟩, false, 91) else ((getF fs name).getD ⟨#[]⟩, hasF fs name, 0)
def putS (k : Int) (t : ByteArray) (fs : List Fld) (name s : ByteArray) : Int × ByteArray × List Fld × Bool × Int :=
  if k = 1 then (k, t, fs, false, 91) else if (512 < name.size ∨ 4096 < s.size) ∨ hasF fs name = false ∧ 256 ≤ fs.length then (k, t, fs, false, 94) else (2, ⟨#[]⟩, putF fs name s, !hasF fs name, 0)
def dropS (k : Int) (t : ByteArray) (fs : List Fld) (name : ByteArray) : Int × ByteArray × List Fld × Bool × Int :=
  if k = 1 then (k, t, fs, false, 91) else if (dropF fs name).length = 0 then (0, ⟨#[]⟩, [], hasF fs name, 0) else (k, ⟨#[]⟩, dropF fs name, hasF fs name, 0)
theorem tooBig_iff {fs : List Fld} {name s : ByteArray} : TooBig fs name s ↔ ((512 < name.size ∨ 4096 < s.size) ∨ hasF fs name = false ∧ 256 ≤ fs.length) := by
  unfold TooBig fineF
  constructor
  · rintro (h | h)
    · left
      by_cases h1 : 512 < name.size
      · exact Or.inl h1
      · right
        rcases Nat.lt_or_ge 4096 s.size with h2 | h2
        · exact h2
        · exact absurd ⟨by show name.size ≤ 512; omega, h2⟩ h
    · exact Or.inr h
  · rintro (h | h)
    · left
      rintro ⟨h1, h2⟩
      have h1' : name.size ≤ 512 := h1
      have h2' : s.size ≤ 4096 := h2
      omega
    · exact Or.inr h
/-- What an item that fits has. -/
structure FitI (k : Int) (t : ByteArray) (n : Nat) (fs : List Fld) : Prop where
  srt : Srt fs
  n : n ≤ 256
  text : t.size ≤ 4096
  empty : k ≠ 1 → t = ⟨#[]⟩
  none : fs = [] → k ≠ 1 → k ≠ 2 → k = 0
  two : k = 2 → fs ≠ []
  zero : k = 0 ∨ k = 1 ∨ k = 2
  flds : k ≠ 2 → fs = []
theorem fitI_of {k : Int} {t : ByteArray} {n : Nat} {fs : List Fld} (hl : fs.length = n) (h : FitsP k t fs) : FitI k t n fs := by
  rcases h with (⟨rfl, h1, h2⟩ | ⟨rfl, rfl, h1, h2, h3, h4⟩) | ⟨rfl, rfl, rfl⟩
  · have := List.length_eq_zero_iff.1 h2
    subst this
    exact ⟨List.Pairwise.nil, by simp at hl; omega, h1, fun h => absurd rfl h, fun _ h => absurd rfl h, fun h => by omega, Or.inr (Or.inl rfl), fun _ => rfl⟩
  · exact ⟨h4, by omega, by decide, fun _ => rfl, fun h => by rw [h] at h1; simp at h1, fun _ h => by rw [h] at h1; simp at h1, Or.inr (Or.inr rfl), fun h => absurd rfl h⟩
  · exact ⟨List.Pairwise.nil, by simp at hl; omega, by decide, fun _ => rfl, fun _ _ _ => rfl, fun h => by omega, Or.inl rfl, fun _ => rfl⟩

/-- What comes out of dropping lies in new memory, or is what came in. -/
def Away (w : World) (a a' : Option Addr) (n' : Nat) : Prop := ∀ ad, a' = some ad → 0 < n' → w.heap.size ≤ ad.block ∨ a' = a
theorem away_same (w : World) (a : Option Addr) (n : Nat) : Away w a a n := fun _ _ _ => Or.inr rfl
theorem away_nil (w : World) (a : Option Addr) : Away w a none 0 := fun _ h => by cases h
theorem away_own {w w' : World} {a a' : Option Addr} {e n cap size : Nat} {xs : List Value} (h : w'.ownsRow w.heap.size e size (.slice a' n cap) n xs) : Away w a a' n := fun ad he _ => by
  subst he; exact Or.inl (owns_block h ad.block rfl).1
theorem iappend_all {k : Int} {t : ByteArray} {a : Option Addr} {n cap : Nat} {fs : List Fld} {s : ByteArray} {w : World} (hr : RF w a n cap fs) (hF : FitI k t n fs) {k1 : Int} {t1 : ByteArray} {fs1 : List Fld} {e1 : Int} (h : appS k t fs s = (k1, t1, fs1, e1)) :
    Calls Tryd.prog 20 #[.agg #[.int .i64 k, .string t, .slice a n cap], .string s] w fun e w' => ∃ (a' : Option Addr) (n' cap' : Nat), e = .returned (.tuple #[.agg #[.int .i64 k1, .string t1, .slice a' n' cap'], .int .i64 e1]) ∧ RF w' a' n' cap' fs1 ∧ n' ≤ 1000 ∧ Below w.heap.size w w' := by
  have hn := hF.n
  have ht := hF.text
  unfold appS at h
  by_cases hk : k = 2
  · rw [if_pos hk] at h
    simp only [Prod.mk.injEq] at h
    obtain ⟨rfl, rfl, rfl, rfl⟩ := h
    exact (iappend_hash k hk t a n cap fs s w hr (by omega)).mono fun e w' ⟨a', c', h1, h2, h3⟩ => ⟨a', n, c', h1, h2, by omega, h3⟩
  · rw [if_neg hk] at h
    by_cases hb : 4096 < t.size + s.size
    · rw [if_pos hb] at h
      simp only [Prod.mk.injEq] at h
      obtain ⟨rfl, rfl, rfl, rfl⟩ := h
      exact (iappend_big k hk t a n cap s w ht hb).mono fun e w' ⟨h1, h3⟩ => ⟨a, n, cap, h1, hr.below h3, by omega, h3⟩
    · rw [if_neg hb] at h
      simp only [Prod.mk.injEq] at h
      obtain ⟨rfl, rfl, rfl, rfl⟩ := h
      exact (iappend_in k hk t a n cap s w (by omega)).mono fun e w' ⟨h1, h3⟩ => ⟨none, 0, 0, h1, Reads.nil _ _ _ _, by omega, h3⟩
theorem rappend_all {k : Int} {t : ByteArray} {a : Option Addr} {n cap : Nat} {fs : List Fld} {s : ByteArray} {w : World} (hr : RF w a n cap fs) (hF : FitI k t n fs) (hs : s.size ≤ 5000) {k1 : Int} {t1 : ByteArray} {fs1 : List Fld} {e1 : Int} (h : appS k t fs s = (k1, t1, fs1, e1)) :
    Calls Tryd.prog 21 #[.agg #[.int .i64 k, .string t, .slice a n cap], .string s] w fun e w' => ∃ (a' : Option Addr) (n' cap' : Nat), e = .returned (.tuple #[.agg #[.int .i64 k1, .string t1, .slice a' n' cap'], .int .i64 e1]) ∧ RF w' a' n' cap' fs1 ∧ n' ≤ 1000 ∧ Below w.heap.size w w' := by
  have hn := hF.n
  have ht := hF.text
  unfold appS at h
  by_cases hk : k = 2
  · rw [if_pos hk] at h
    simp only [Prod.mk.injEq] at h
    obtain ⟨rfl, rfl, rfl, rfl⟩ := h
    exact (rappend_hash k hk t a n cap s w).mono fun e w' ⟨h1, h3⟩ => ⟨a, n, cap, h1, hr.below h3, by omega, h3⟩
  · rw [if_neg hk] at h
    by_cases hb : 4096 < t.size + s.size
    · rw [if_pos hb] at h
      simp only [Prod.mk.injEq] at h
      obtain ⟨rfl, rfl, rfl, rfl⟩ := h
      exact (rappend_big k hk t a n cap s w ht hs hb).mono fun e w' ⟨h1, h3⟩ => ⟨a, n, cap, h1, hr.below h3, by omega, h3⟩
    · rw [if_neg hb] at h
      simp only [Prod.mk.injEq] at h
      obtain ⟨rfl, rfl, rfl, rfl⟩ := h
      exact (rappend_in k hk t a n cap s w (by omega)).mono fun e w' ⟨h1, h3⟩ => ⟨none, 0, 0, h1, Reads.nil _ _ _ _, by omega, h3⟩
theorem iget_all {k : Int} {t : ByteArray} {a : Option Addr} {n cap : Nat} {fs : List Fld} {name : ByteArray} {w : World} (hr : RF w a n cap fs) (hF : FitI k t n fs) {T : ByteArray} {b1 : Bool} {e1 : Int} (h : getS k fs name = (T, b1, e1)) :
    Calls Tryd.prog 17 #[.agg #[.int .i64 k, .string t, .slice a n cap], .string name] w fun e w' => e = .returned (.tuple #[.string T, .bool b1, .int .i64 e1]) ∧ Below w.heap.size w w' := by
  have hn := hF.n
  unfold getS at h
  by_cases hk : k = 1
  · rw [if_pos hk] at h
    simp only [Prod.mk.injEq] at h
    obtain ⟨rfl, rfl, rfl⟩ := h
    subst hk
    exact iget_text t a n cap name w
  · rw [if_neg hk] at h
    simp only [Prod.mk.injEq] at h
    obtain ⟨rfl, rfl, rfl⟩ := h
    exact iget_any k t a n cap fs name w hk hr hF.srt (by omega)
theorem rget_all {k : Int} {t : ByteArray} {a : Option Addr} {n cap : Nat} {fs : List Fld} {name : ByteArray} {w : World} (hr : RF w a n cap fs) (hF : FitI k t n fs) {T : ByteArray} {b1 : Bool} {e1 : Int} (h : getS k fs name = (T, b1, e1)) :
    Calls Tryd.prog 22 #[.agg #[.int .i64 k, .string t, .slice a n cap], .string name] w fun e w' => e = .returned (.tuple #[.string T, .bool b1, .int .i64 e1]) ∧ Below w.heap.size w w' := by
  have hn := hF.n
  unfold getS at h
  by_cases hk : k = 1
  · rw [if_pos hk] at h
    simp only [Prod.mk.injEq] at h
    obtain ⟨rfl, rfl, rfl⟩ := h
    subst hk
    exact rget_text t a n cap name w
  · rw [if_neg hk] at h
    simp only [Prod.mk.injEq] at h
    obtain ⟨rfl, rfl, rfl⟩ := h
    exact rget_any k t a n cap fs name w hk hr (by omega)
theorem put_le {fs : List Fld} (hs : Srt fs) (name s : ByteArray) : (putF fs name s).length ≤ fs.length + 1 := by rw [putF_len hs]; split <;> omega
theorem iput_all {k : Int} {t : ByteArray} {a : Option Addr} {n cap : Nat} {fs : List Fld} {name s : ByteArray} {w : World} (hr : RF w a n cap fs) (hF : FitI k t n fs) {k1 : Int} {t1 : ByteArray} {fs1 : List Fld} {b1 : Bool} {e1 : Int} (h : putS k t fs name s = (k1, t1, fs1, b1, e1)) :
    Calls Tryd.prog 18 #[.agg #[.int .i64 k, .string t, .slice a n cap], .string name, .string s] w fun e w' => ∃ (a' : Option Addr) (n' cap' : Nat), e = .returned (.tuple #[.agg #[.int .i64 k1, .string t1, .slice a' n' cap'], .bool b1, .int .i64 e1]) ∧ RF w' a' n' cap' fs1 ∧ n' ≤ 1000 ∧ Below w.heap.size w w' := by
  have hn := hF.n
  unfold putS at h
  by_cases hk : k = 1
  · rw [if_pos hk] at h
    simp only [Prod.mk.injEq] at h
    obtain ⟨rfl, rfl, rfl, rfl, rfl⟩ := h
    subst hk
    exact (iput_text t a n cap name s w).mono fun e w' ⟨h1, h3⟩ => ⟨a, n, cap, h1, hr.below h3, by omega, h3⟩
  · rw [if_neg hk] at h
    by_cases hb : (512 < name.size ∨ 4096 < s.size) ∨ hasF fs name = false ∧ 256 ≤ fs.length
    · rw [if_pos hb] at h
      simp only [Prod.mk.injEq] at h
      obtain ⟨rfl, rfl, rfl, rfl, rfl⟩ := h
      exact (iput_big k t a n cap fs name s w hk hr hF.srt (by omega) (tooBig_iff.2 hb)).mono fun e w' ⟨a', c', h1, h2, h3⟩ => ⟨a', n, c', h1, h2, by omega, h3⟩
    · rw [if_neg hb] at h
      simp only [Prod.mk.injEq] at h
      obtain ⟨rfl, rfl, rfl, rfl, rfl⟩ := h
      have hl := hr.len
      exact (iput_in k t a n cap fs name s w hk hr hF.srt (by omega) ⟨by show name.size ≤ 512; omega, by show s.size ≤ 4096; omega⟩ (by
        cases hh : hasF fs name with
        | true => exact Or.inl rfl
        | false => right; rcases Nat.lt_or_ge n 256 with h | h; exact h; exact absurd (Or.inr ⟨hh, by omega⟩) hb)).mono fun e w' ⟨a', n', c', h1, h2, h3⟩ => ⟨a', n', c', h1, RF.of_owns h2, by
          have h4 := (RF.of_owns h2).len; have := put_le hF.srt name s; omega, h3⟩
theorem rput_all {k : Int} {t : ByteArray} {a : Option Addr} {n cap : Nat} {fs : List Fld} {name s : ByteArray} {w : World} (hr : RF w a n cap fs) (hF : FitI k t n fs) {k1 : Int} {t1 : ByteArray} {fs1 : List Fld} {b1 : Bool} {e1 : Int} (h : putS k t fs name s = (k1, t1, fs1, b1, e1)) :
    Calls Tryd.prog 23 #[.agg #[.int .i64 k, .string t, .slice a n cap], .string name, .string s] w fun e w' => ∃ (a' : Option Addr) (n' cap' : Nat), e = .returned (.tuple #[.agg #[.int .i64 k1, .string t1, .slice a' n' cap'], .bool b1, .int .i64 e1]) ∧ RF w' a' n' cap' fs1 ∧ n' ≤ 1000 ∧ Below w.heap.size w w' := by
  have hn := hF.n
  unfold putS at h
  by_cases hk : k = 1
  · rw [if_pos hk] at h
    simp only [Prod.mk.injEq] at h
    obtain ⟨rfl, rfl, rfl, rfl, rfl⟩ := h
    subst hk
    exact (rput_text t a n cap name s w).mono fun e w' ⟨h1, h3⟩ => ⟨a, n, cap, h1, hr.below h3, by omega, h3⟩
  · rw [if_neg hk] at h
    by_cases hb : (512 < name.size ∨ 4096 < s.size) ∨ hasF fs name = false ∧ 256 ≤ fs.length
    · rw [if_pos hb] at h
      simp only [Prod.mk.injEq] at h
      obtain ⟨rfl, rfl, rfl, rfl, rfl⟩ := h
      exact (rput_big k t a n cap fs name s w hk hr hF.srt (by omega) (tooBig_iff.2 hb)).mono fun e w' ⟨h1, h3⟩ => ⟨a, n, cap, h1, hr.below h3, by omega, h3⟩
    · rw [if_neg hb] at h
      simp only [Prod.mk.injEq] at h
      obtain ⟨rfl, rfl, rfl, rfl, rfl⟩ := h
      have hl := hr.len
      exact (rput_in k t a n cap fs name s w hk hr hF.srt (by omega) ⟨by show name.size ≤ 512; omega, by show s.size ≤ 4096; omega⟩ (by
        cases hh : hasF fs name with
        | true => exact Or.inl rfl
        | false => right; rcases Nat.lt_or_ge n 256 with h | h; exact h; exact absurd (Or.inr ⟨hh, by omega⟩) hb)).mono fun e w' ⟨a', n', c', h1, h2, h3⟩ => ⟨a', n', c', h1, h2, by
          have h4 := h2.len; have := put_le hF.srt name s; omega, h3⟩
theorem drop_le (fs : List Fld) (name : ByteArray) : (dropF fs name).length ≤ fs.length := List.length_filter_le _ _
theorem rdrop_all {k : Int} {t : ByteArray} {a : Option Addr} {n cap : Nat} {fs : List Fld} {name : ByteArray} {w : World} (hr : RF w a n cap fs) (hF : FitI k t n fs) {k1 : Int} {t1 : ByteArray} {fs1 : List Fld} {b1 : Bool} {e1 : Int} (h : dropS k t fs name = (k1, t1, fs1, b1, e1)) :
    Calls Tryd.prog 25 #[.agg #[.int .i64 k, .string t, .slice a n cap], .string name] w fun e w' => ∃ (a' : Option Addr) (n' cap' : Nat), e = .returned (.tuple #[.agg #[.int .i64 k1, .string t1, .slice a' n' cap'], .bool b1, .int .i64 e1]) ∧ RF w' a' n' cap' fs1 ∧ n' ≤ 1000 ∧ Below w.heap.size w w' ∧ Away w a a' n' := by
  have hn := hF.n
  unfold dropS at h
  by_cases hk : k = 1
  · rw [if_pos hk] at h
    simp only [Prod.mk.injEq] at h
    obtain ⟨rfl, rfl, rfl, rfl, rfl⟩ := h
    subst hk
    exact (rdrop_text t a n cap name w).mono fun e w' ⟨h1, h3⟩ => ⟨a, n, cap, h1, hr.below h3, by omega, h3, away_same _ _ _⟩
  · rw [if_neg hk] at h
    by_cases hb : (dropF fs name).length = 0
    · rw [if_pos hb] at h
      simp only [Prod.mk.injEq] at h
      obtain ⟨rfl, rfl, rfl, rfl, rfl⟩ := h
      exact (rdrop_nil k t a n cap fs name w hk hr hF.srt (by omega) (List.length_eq_zero_iff.1 hb)).mono fun e w' ⟨h1, h3⟩ => ⟨none, 0, 0, h1, Reads.nil _ _ _ _, by omega, h3, away_nil _ _⟩
    · rw [if_neg hb] at h
      simp only [Prod.mk.injEq] at h
      obtain ⟨rfl, rfl, rfl, rfl, rfl⟩ := h
      have hl := hr.len
      exact (rdrop_some k t a n cap fs name w hk hr hF.srt (by omega) (fun e => hb (by rw [e]; rfl))).mono fun e w' ⟨a', n', c', h1, h2, h3⟩ => ⟨a', n', c', h1, RF.of_owns h2, by
          have h4 := (RF.of_owns h2).len; have := drop_le fs name; omega, h3, away_own h2⟩
theorem idrop_text (t : ByteArray) (a : Option Addr) (n cap : Nat) (name : ByteArray) (w : World) :
    Calls Tryd.prog 24 #[.agg #[.int .i64 1, .string t, .slice a n cap], .string name] w fun e w' => e = .returned (.tuple #[.agg #[.int .i64 1, .string t, .slice a n cap], .bool false, .int .i64 91]) ∧ Below w.heap.size w w' := by
  obtain ⟨k, hk⟩ : ∃ k : Int, k = 1 := ⟨_, rfl⟩
  rw [← hk]
  obtain ⟨W2, hW2⟩ : ∃ W2, W2 = (w.alloc (.cells #[.int .i64 k, .string t, .slice a n cap] 24)).alloc (.cells #[.int .i64 0, .string ⟨#[]⟩, .slice none 0 0] 24) := ⟨_, rfl⟩
  have hb2 : Below w.heap.size w W2 := by rw [hW2]; exact ((Below.refl _ _).alloc (Nat.le_refl _) _).alloc (by simp) _
  have hs2 : W2.heap.size = w.heap.size + 2 := by rw [hW2]; simp
  have hB : ∀ q u, #[.int .i64 k, .string t, .slice a n cap][q]? = some u → W2.cell? ⟨w.heap.size, q, none⟩ = some u := fun q u h => by rw [hW2, World.cell?_alloc_past _ _ _ (by simp), World.cell?_alloc_new]; exact h
  have hC : ∀ q u, #[.int .i64 0, .string ⟨#[]⟩, .slice none 0 0][q]? = some u → W2.cell? ⟨w.heap.size + 1, q, none⟩ = some u := fun q u h => by
    rw [hW2, show w.heap.size + 1 = (w.alloc (.cells #[.int .i64 k, .string t, .slice a n cap] 24)).heap.size by simp, World.cell?_alloc_new]; exact h
  have hfC : Blk W2 (w.heap.size + 1) := by rw [hW2, show w.heap.size + 1 = (w.alloc (.cells #[.int .i64 k, .string t, .slice a n cap] 24)).heap.size by simp]; exact Blk.new _ _ _
  have g0 : W2.cell? ⟨w.heap.size, 0, none⟩ = some (.int .i64 k) := hB 0 _ rfl
  have g1 : W2.cell? ⟨w.heap.size, 1, none⟩ = some (.string t) := hB 1 _ rfl
  have g2 : W2.cell? ⟨w.heap.size, 2, none⟩ = some (.slice a n cap) := hB 2 _ rfl
  have i0 : W2.cell? ⟨w.heap.size + 1, 0, none⟩ = some (.int .i64 0) := hC 0 _ rfl
  have i1 : W2.cell? ⟨w.heap.size + 1, 1, none⟩ = some (.string ⟨#[]⟩) := hC 1 _ rfl
  have i2 : W2.cell? ⟨w.heap.size + 1, 2, none⟩ = some (.slice none 0 0) := hC 2 _ rfl
  have y0 := hfC.frz 0 none
  have y1 := hfC.frz 1 none
  have y2 := hfC.frz 2 none
  replace hW2 := Lib.hid hW2
  clear hB hC
  have hfin := set3 hb2
  have hk1 : (k == 1) = true := by simpa using hk
  replace hfin := Lib.hid hfin
  replace hk := Lib.hid hk
  go_enter Tryd.func24, Tryd.ntmps24
  go_upto_region 1 with fail
  rw [← hW2.out]
  go_wp2_with fail
  refine bodyPost_ret (v := .tuple #[.agg #[.int .i64 k, .string t, .slice a n cap], .bool false, .int .i64 91]) (by simp [results, Tryd.results24, go_sem, i0, i1, i2]) rfl ⟨rfl, hfin.out _ _ _⟩
theorem idrop_all {k : Int} {t : ByteArray} {a : Option Addr} {n cap : Nat} {fs : List Fld} {name : ByteArray} {w : World} (hr : RF w a n cap fs) (hF : FitI k t n fs) {k1 : Int} {t1 : ByteArray} {fs1 : List Fld} {b1 : Bool} {e1 : Int} (h : dropS k t fs name = (k1, t1, fs1, b1, e1)) :
    Calls Tryd.prog 24 #[.agg #[.int .i64 k, .string t, .slice a n cap], .string name] w fun e w' => ∃ (a' : Option Addr) (n' cap' : Nat), e = .returned (.tuple #[.agg #[.int .i64 k1, .string t1, .slice a' n' cap'], .bool b1, .int .i64 e1]) ∧ RF w' a' n' cap' fs1 ∧ n' ≤ 1000 ∧ Below w.heap.size w w' ∧ Away w a a' n' := by
  have hn := hF.n
  have hl := hr.len
  unfold dropS at h
  by_cases hk : k = 1
  · rw [if_pos hk] at h
    simp only [Prod.mk.injEq] at h
    obtain ⟨rfl, rfl, rfl, rfl, rfl⟩ := h
    subst hk
    exact (idrop_text t a n cap name w).mono fun e w' ⟨h1, h3⟩ => ⟨a, n, cap, h1, hr.below h3, by omega, h3, away_same _ _ _⟩
  · rw [if_neg hk] at h
    have hlen := dropF_len hF.srt name
    have ht := hF.empty hk
    cases hh : hasF fs name with
    | false =>
      rw [hh] at h hlen
      rw [dropF_none hh] at h
      by_cases hb : fs.length = 0
      · rw [if_pos hb] at h
        simp only [Prod.mk.injEq] at h
        obtain ⟨rfl, rfl, rfl, rfl, rfl⟩ := h
        have hfs := List.length_eq_zero_iff.1 hb
        have hk0 := hF.none hfs hk (fun e => hF.two e hfs)
        subst hk0; subst ht; subst hfs
        exact (idrop_none 0 ⟨#[]⟩ a n cap [] name w hk hr hF.srt (by omega) hh).mono fun e w' ⟨a', c', h1, h2, h3⟩ => ⟨a', n, c', h1, RF.of_owns h2, by omega, h3, away_own h2⟩
      · rw [if_neg hb] at h
        simp only [Prod.mk.injEq] at h
        obtain ⟨rfl, rfl, rfl, rfl, rfl⟩ := h
        subst ht
        exact (idrop_none k ⟨#[]⟩ a n cap fs name w hk hr hF.srt (by omega) hh).mono fun e w' ⟨a', c', h1, h2, h3⟩ => ⟨a', n, c', h1, RF.of_owns h2, by omega, h3, away_own h2⟩
    | true =>
      rw [hh] at h hlen
      simp only [if_true] at hlen
      by_cases hb : n = 1
      · rw [if_pos (by omega)] at h
        simp only [Prod.mk.injEq] at h
        obtain ⟨rfl, rfl, rfl, rfl, rfl⟩ := h
        exact (idrop_last k t a n cap fs name w hk hr hF.srt (by omega) hh hb).mono fun e w' ⟨h1, h3⟩ => ⟨none, 0, 0, h1, Reads.nil _ _ _ _, by omega, h3, away_nil _ _⟩
      · rw [if_neg (by omega)] at h
        simp only [Prod.mk.injEq] at h
        obtain ⟨rfl, rfl, rfl, rfl, rfl⟩ := h
        subst ht
        exact (idrop_more k ⟨#[]⟩ a n cap fs name w hk hr hF.srt (by omega) hh hb).mono fun e w' ⟨a', c', h1, h2, h3⟩ => ⟨a', n - 1, c', h1, RF.of_owns h2, by omega, h3, away_own h2⟩
end Go.Proofs.YteoalcmhdoopnaaDoor
