/- internal/strconv.prescale and the small ones beside it. -/
import Derived.Test.YtagkgfniihiinaaGreatDoorUscW
import Derived.Test.YtagkgfniihiinaaGreatDoorBase
import Derived.Test.YtagkgfniihiinaaGreatDoorShort

namespace Go.Proofs.YtagkgfniihiinaaGreatDoor
open Go.RowKit

/-- The table of powers of ten, as it lies. -/
def Pows (w : World) : Prop := ∀ p : Int, -348 ≤ p → p ≤ 347 → w.cell? ⟨8, (p + 348).toNat * 2, none⟩ = some (.int .u64 (hiT p : Int)) ∧ w.cell? ⟨8, (p + 348).toNat * 2 + 1, none⟩ = some (.int .u64 (loT p : Int))
theorem Pows.lt {w : World} (h : Pows w) : 8 < w.heap.size := World.block_lt_of_cell? _ _ (h 0 (by decide) (by decide)).1
theorem Pows.fr {S : Nat → Prop} {w w' : World} (h : Pows w) (hf : Fr S w w') (hS : ¬ S 8) : Pows w' := fun p h0 h1 => ⟨hf.cell (h p h0 h1).1 hS, hf.cell (h p h0 h1).2 hS⟩
theorem Pows.below {B : Nat} {w w' : World} (h : Pows w) (hb : Below B w w') (hB : 8 < B) : Pows w' := h.fr (Fr.of_below hb) (Nat.not_le_of_lt hB)

theorem log2P_any (x : Int) (h0 : -1000 ≤ x) (h1 : x ≤ 1000) (w : World) : Calls Tryz.prog 173 #[.int .i64 x] w fun e w' => e = .returned (.int .i64 (lp10 x)) ∧ w' = w := by
  go_enter Tryz.func173, Tryz.ntmps173
  go_wp2
  go_ret
  exact ⟨rfl, rfl⟩
theorem log10P_any (x : Int) (h0 : -3000 ≤ x) (h1 : x ≤ 3000) (w : World) : Calls Tryz.prog 144 #[.int .i64 x] w fun e w' => e = .returned (.int .i64 (l10p2 x)) ∧ w' = w := by
  go_enter Tryz.func144, Tryz.ntmps144
  go_wp2
  go_ret
  exact ⟨rfl, rfl⟩
theorem skewed_any (x : Int) (h0 : -3000 ≤ x) (h1 : x ≤ 3000) (w : World) : Calls Tryz.prog 171 #[.int .i64 x] w fun e w' => e = .returned (.int .i64 (skewF x)) ∧ w' = w := by
  go_enter Tryz.func171, Tryz.ntmps171
  go_wp2
  go_ret
  exact ⟨rfl, rfl⟩
theorem ceil_any (u : Nat) (h : u < 18446744073709551000) (w : World) : Calls Tryz.prog 176 #[.int .u64 (u : Int)] w fun e w' => e = .returned (.int .u64 (((u + 3) / 4 : Nat) : Int)) ∧ w' = w := by
  go_enter Tryz.func176, Tryz.ntmps176
  go_wp2
  go_ret
  exact ⟨rfl, rfl⟩
theorem floor_any (u : Nat) (h : u < 18446744073709551000) (w : World) : Calls Tryz.prog 177 #[.int .u64 (u : Int)] w fun e w' => e = .returned (.int .u64 ((u / 4 : Nat) : Int)) ∧ w' = w := by
  go_enter Tryz.func177, Tryz.ntmps177
  go_wp2
  go_ret
  exact ⟨by simp, rfl⟩
theorem round_any (u : Nat) (h : u < 18446744073709551000) (w : World) : Calls Tryz.prog 178 #[.int .u64 (u : Int)] w fun e w' => e = .returned (.int .u64 ((rndU u : Nat) : Int)) ∧ w' = w := by
  obtain ⟨q, hq⟩ : ∃ q, q = u / 4 := ⟨_, rfl⟩
  have hd : ((u : Int)) / 4 = (q : Int) := by omega
  obtain ⟨m, hm⟩ : ∃ m, m = q % 2 := ⟨_, rfl⟩
  have hand : bits .and .u64 (q : Int) 1 = (m : Int) := by
    have := bits_and64 (x := q) (y := 1) (by omega) (by omega)
    rw [and_1, ← hm] at this
    exact this
  have hr : ((u : Int) + 1 + (m : Int)) / 4 = ((rndU u : Nat) : Int) := by unfold rndU; omega
  have hm2 : m ≤ 1 := by omega
  generalize rndU u = r at *
  clear hq hm
  go_enter Tryz.func178, Tryz.ntmps178
  go_wp2
  go_ret
  exact ⟨rfl, rfl⟩
theorem hi_lt {p : Int} (h0 : -348 ≤ p) (h1 : p ≤ 347) : 9223372036854775808 ≤ hiT p ∧ hiT p < 18446744073709551616 := by
  obtain ⟨_, hh⟩ := at10 hi_ok certP_len h0 h1
  rw [hiOk, Bool.and_eq_true, decide_eq_true_eq, decide_eq_true_eq] at hh
  exact hh
set_option maxRecDepth 100000 in
set_option maxHeartbeats 1600000 in
theorem prescale_any {w : World} {b : Nat} {e p l : Int} {c0 c1 c2 : Value} (hb : Blk w b) (h0 : w.cell? ⟨b, 0, none⟩ = some c0) (h1 : w.cell? ⟨b, 1, none⟩ = some c1) (h2 : w.cell? ⟨b, 2, none⟩ = some c2) (hP : Pows w)
    (hbg : b ≠ 8) (p0 : -348 ≤ p) (p1 : p ≤ 347) (e0 : -3000 ≤ e) (e1 : e ≤ 3000) (l0 : -3000 ≤ l) (l1 : l ≤ 3000) :
    Calls Tryz.prog 172 #[.pointer (some ⟨b, 0, none⟩), .int .i64 e, .int .i64 p, .int .i64 l] w fun x w' => x = .returned (.tuple #[]) ∧
      w' = ((w.setCell ⟨b, 0, none⟩ (.int .u64 (hiT p : Int))).setCell ⟨b, 1, none⟩ (.int .u64 (loT p : Int))).setCell ⟨b, 2, none⟩ (.int .i64 (-(e + l + 3))) := by
  obtain ⟨t0, t1⟩ := hP p p0 p1
  have g0 := (hi_lt p0 p1).2
  have g1 := lo_lt p
  generalize hiT p = H at *
  generalize loT p = L at *
  obtain ⟨q, hq⟩ : ∃ q : Nat, q = (p + 348).toNat := ⟨_, rfl⟩
  rw [← hq] at t0 t1
  have hqe : p + 348 = (q : Int) := by omega
  have hq6 : q < 696 := by omega
  have z0 := hb.frz 0 none
  have z1 := hb.frz 1 none
  have z2 := hb.frz 2 none
  have hbg' : ¬ (8 = b) := fun h => hbg h.symm
  clear hP hb hq
  go_enter Tryz.func172, Tryz.ntmps172
  go_wp2
  go_end0
  exact ⟨rfl, rfl⟩
end Go.Proofs.YtagkgfniihiinaaGreatDoor

/- Rows of digits: what they come to, how a float's text is read (no program in sight). -/

namespace Go.Proofs.YtagkgfniihiinaaGreatDoor

def dv (c : UInt8) : Nat := c.toNat - 48
def isD (c : UInt8) : Bool := decide (48 ≤ c.toNat) && decide (c.toNat ≤ 57)
def valD (l : List UInt8) : Nat := l.foldl (fun a c => a * 10 + dv c) 0
theorem foldl_val (l : List UInt8) : ∀ a : Nat, l.foldl (fun a c => a * 10 + dv c) a = a * 10 ^ l.length + valD l := by
  induction l with
  | nil => intro a; simp [valD]
  | cons c l ih =>
    intro a
    have e : valD (c :: l) = dv c * 10 ^ l.length + valD l := by
      show l.foldl (fun a c => a * 10 + dv c) (0 * 10 + dv c) = _
      rw [ih, Nat.zero_mul, Nat.zero_add]
    rw [List.foldl_cons, ih, e, List.length_cons, Nat.pow_succ, Nat.add_mul, Nat.mul_assoc, Nat.mul_comm 10 (10 ^ l.length)]
    omega
theorem valD_append (a b : List UInt8) : valD (a ++ b) = valD a * 10 ^ b.length + valD b := by
  rw [valD, List.foldl_append, foldl_val]; rfl
theorem valD_snoc (a : List UInt8) (c : UInt8) : valD (a ++ [c]) = valD a * 10 + dv c := by
  rw [valD_append]; simp [valD]
theorem valD_cons (c : UInt8) (l : List UInt8) : valD (c :: l) = dv c * 10 ^ l.length + valD l := by
  rw [valD, List.foldl_cons, foldl_val]; simp
theorem dv_le {c : UInt8} (h : isD c = true) : dv c ≤ 9 := by simp [isD] at h; unfold dv; omega
theorem valD_lt : ∀ {l : List UInt8}, (∀ c ∈ l, isD c = true) → valD l < 10 ^ l.length
  | [], _ => by simp [valD]
  | c :: l, h => by
    have h1 := valD_lt (l := l) (fun x hx => h x (List.mem_cons_of_mem _ hx))
    have h2 := dv_le (h c (List.mem_cons_self ..))
    rw [valD_cons, List.length_cons, Nat.pow_succ]
    have : dv c * 10 ^ l.length ≤ 9 * 10 ^ l.length := Nat.mul_le_mul_right _ h2
    omega
theorem valD_zeros : ∀ {l : List UInt8}, (∀ c ∈ l, c = 48) → valD l = 0
  | [], _ => rfl
  | c :: l, h => by
    rw [valD_cons, h c (List.mem_cons_self ..), valD_zeros (l := l) (fun x hx => h x (List.mem_cons_of_mem _ hx))]
    simp [dv]
/-- Without the noughts ahead. -/
def stripL (l : List UInt8) : List UInt8 := l.dropWhile (· == 48)
theorem stripL_snoc_zero {l : List UInt8} (h : stripL l = []) : stripL (l ++ [48]) = [] := by
  unfold stripL at *
  rw [List.dropWhile_append, h]; rfl
theorem stripL_snoc {l : List UInt8} {c : UInt8} (h : c ≠ 48 ∨ stripL l ≠ []) : stripL (l ++ [c]) = stripL l ++ [c] := by
  unfold stripL at *
  rw [List.dropWhile_append]
  by_cases h1 : l.dropWhile (· == 48) = []
  · rcases h with h | h
    · rw [h1]
      have : (c == 48) = false := by simpa using h
      simp [List.dropWhile, this]
    · exact absurd h1 h
  · cases h2 : l.dropWhile (· == 48) with
    | nil => exact absurd h2 h1
    | cons a b => simp
theorem stripL_length (l : List UInt8) : (stripL l).length ≤ l.length := by
  unfold stripL
  exact (List.dropWhile_sublist _).length_le
theorem valD_strip (l : List UInt8) : valD (stripL l) = valD l := by
  induction l with
  | nil => rfl
  | cons c l ih =>
    unfold stripL at *
    rw [List.dropWhile_cons]
    split
    · rename_i h
      have : c = 48 := by simpa using h
      subst this
      rw [ih, valD_cons]; simp [dv]
    · rfl
theorem stripL_mem {l : List UInt8} {c : UInt8} (h : c ∈ stripL l) : c ∈ l := (List.dropWhile_sublist _).subset h
theorem stripL_head {l : List UInt8} (h : stripL l ≠ []) : ∃ c m, stripL l = c :: m ∧ c ≠ 48 := by
  cases h1 : stripL l with
  | nil => exact absurd h1 h
  | cons c m =>
    refine ⟨c, m, rfl, fun e => ?_⟩
    have := List.head_dropWhile_not (p := fun x : UInt8 => x == 48) (l := l) (by unfold stripL at h; exact h)
    unfold stripL at h1
    simp only [h1, List.head_cons] at this
    rw [e] at this; simp at this
theorem strip_nil {l : List UInt8} (hd : ∀ c ∈ l, isD c = true) : stripL l = [] ↔ valD l = 0 := by
  constructor
  · intro h; rw [← valD_strip, h]; rfl
  · intro h
    by_cases h1 : stripL l = []
    · exact h1
    · obtain ⟨c, m, h2, h3⟩ := stripL_head h1
      rw [← valD_strip, h2, valD_cons] at h
      have h4 : isD c = true := hd c (stripL_mem (by rw [h2]; exact List.mem_cons_self ..))
      have h5 : 1 ≤ dv c := by
        simp [isD] at h4
        unfold dv
        have : c.toNat ≠ 48 := fun e => h3 (UInt8.toNat_inj.1 e)
        omega
      have h6 : 1 * 10 ^ m.length ≤ dv c * 10 ^ m.length := Nat.mul_le_mul_right _ h5
      have := Nat.pow_pos (n := m.length) (show 0 < 10 by decide)
      omega
/-- How many digits count; the first nineteen of them; whether one is lost. -/
def ndF (l : List UInt8) : Nat := (stripL l).length
def mantF (l : List UInt8) : Nat := valD ((stripL l).take 19)
def truncF (l : List UInt8) : Bool := ((stripL l).drop 19).any (· != 48)
theorem ndF_zero {l : List UInt8} (h : ndF l = 0) : ndF (l ++ [48]) = 0 ∧ mantF (l ++ [48]) = mantF l ∧ truncF (l ++ [48]) = truncF l := by
  have h1 : stripL l = [] := List.length_eq_zero_iff.1 h
  have h2 := stripL_snoc_zero h1
  unfold ndF mantF truncF
  rw [h1, h2]; exact ⟨rfl, rfl, rfl⟩
theorem ndF_snoc {l : List UInt8} {c : UInt8} (h : c ≠ 48 ∨ ndF l ≠ 0) : ndF (l ++ [c]) = ndF l + 1 ∧
    (ndF l < 19 → mantF (l ++ [c]) = mantF l * 10 + dv c ∧ truncF (l ++ [c]) = truncF l) ∧
    (19 ≤ ndF l → mantF (l ++ [c]) = mantF l ∧ truncF (l ++ [c]) = (truncF l || c != 48)) := by
  have h1 : stripL (l ++ [c]) = stripL l ++ [c] := stripL_snoc (h.imp id (fun h2 h3 => h2 (by unfold ndF; rw [h3]; rfl)))
  unfold ndF mantF truncF
  rw [h1]
  refine ⟨by simp, fun h2 => ⟨?_, ?_⟩, fun h2 => ⟨?_, ?_⟩⟩
  · rw [List.take_of_length_le (by simp; omega), List.take_of_length_le (by omega), valD_snoc]
  · rw [List.drop_of_length_le (by simp; omega), List.drop_of_length_le (by omega)]
  · rw [List.take_append_of_le_length h2]
  · rw [List.drop_append_of_le_length h2, List.any_append]; simp
theorem mantF_lt {l : List UInt8} (hd : ∀ c ∈ l, isD c = true) : mantF l < 10 ^ (min 19 (ndF l)) := by
  unfold mantF ndF
  have := valD_lt (l := (stripL l).take 19) (fun c hc => hd c (stripL_mem (List.mem_of_mem_take hc)))
  rwa [List.length_take] at this
theorem mantF_lt19 {l : List UInt8} (hd : ∀ c ∈ l, isD c = true) : mantF l < 10000000000000000000 :=
  Nat.lt_of_lt_of_le (mantF_lt hd) (Nat.pow_le_pow_right (n := 10) (by decide) (Nat.min_le_left 19 _))
/-- Where nothing is lost the digits come to the first nineteen and so many noughts. -/
theorem mantF_val {l : List UInt8} (h : truncF l = false) : valD l = mantF l * 10 ^ (ndF l - min 19 (ndF l)) := by
  have h1 : valD ((stripL l).drop 19) = 0 := valD_zeros (fun c hc => by
    unfold truncF at h
    rw [List.any_eq_false] at h
    simpa using h c hc)
  rw [← valD_strip l]
  conv => lhs; rw [← List.take_append_drop 19 (stripL l)]
  rw [valD_append, h1, Nat.add_zero, List.length_drop]
  unfold mantF ndF
  congr 2; omega
theorem mantF_zero {l : List UInt8} (hd : ∀ c ∈ l, isD c = true) : mantF l = 0 ↔ valD l = 0 := by
  rw [← strip_nil hd]
  constructor
  · intro h
    by_cases h1 : stripL l = []
    · exact h1
    · obtain ⟨c, m, h2, h3⟩ := stripL_head h1
      unfold mantF at h
      rw [h2, List.take_succ_cons, valD_cons] at h
      have h4 : isD c = true := hd c (stripL_mem (by rw [h2]; exact List.mem_cons_self ..))
      have h5 : 1 ≤ dv c := by
        simp [isD] at h4
        unfold dv
        have : c.toNat ≠ 48 := fun e => h3 (UInt8.toNat_inj.1 e)
        omega
      have h6 : 1 * 10 ^ (m.take 18).length ≤ dv c * 10 ^ (m.take 18).length := Nat.mul_le_mul_right _ h5
      have := Nat.pow_pos (n := (m.take 18).length) (show 0 < 10 by decide)
      omega
  · intro h; unfold mantF; rw [h]; rfl
/-- An exponent's digits, as far as they are taken. -/
def capE (l : List UInt8) : Nat := l.foldl (fun e c => if e < 10000 then e * 10 + dv c else e) 0
theorem capE_snoc (l : List UInt8) (c : UInt8) : capE (l ++ [c]) = if capE l < 10000 then capE l * 10 + dv c else capE l := by
  unfold capE; rw [List.foldl_append]; rfl
theorem capE_lt {l : List UInt8} (hd : ∀ c ∈ l, isD c = true) : capE l < 100000 := by
  have key : ∀ (l : List UInt8), (∀ c ∈ l, isD c = true) → ∀ a : Nat, a < 100000 → l.foldl (fun e c => if e < 10000 then e * 10 + dv c else e) a < 100000 := by
    intro l
    induction l with
    | nil => intro _ a h; exact h
    | cons c l ih =>
      intro h a ha
      refine ih (fun x hx => h x (List.mem_cons_of_mem _ hx)) _ ?_
      have := dv_le (h c (List.mem_cons_self ..))
      show (if a < 10000 then a * 10 + dv c else a) < 100000
      split <;> omega
  exact key l hd 0 (by decide)
theorem capE_val {l : List UInt8} (hd : ∀ c ∈ l, isD c = true) : capE l = valD l ∨ (10000 ≤ capE l ∧ 10000 ≤ valD l) := by
  have key : ∀ (l : List UInt8), (∀ c ∈ l, isD c = true) → ∀ a b : Nat, (a = b ∨ (10000 ≤ a ∧ 10000 ≤ b)) → (l.foldl (fun e c => if e < 10000 then e * 10 + dv c else e) a = l.foldl (fun a c => a * 10 + dv c) b ∨
      (10000 ≤ l.foldl (fun e c => if e < 10000 then e * 10 + dv c else e) a ∧ 10000 ≤ l.foldl (fun a c => a * 10 + dv c) b)) := by
    intro l
    induction l with
    | nil => intro _ a b h; exact h
    | cons c l ih =>
      intro h a b hab
      refine ih (fun x hx => h x (List.mem_cons_of_mem _ hx)) _ _ ?_
      show (if a < 10000 then a * 10 + dv c else a) = b * 10 + dv c ∨ (10000 ≤ (if a < 10000 then a * 10 + dv c else a) ∧ 10000 ≤ b * 10 + dv c)
      split
      · rcases hab with h1 | h1
        · left; omega
        · omega
      · right; omega
  exact key l hd 0 0 (.inl rfl)
end Go.Proofs.YtagkgfniihiinaaGreatDoor
