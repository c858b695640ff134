/- The table of powers of ten, as what it is: rounded up to 128 bits; that no number of 64 bits (of 55 bits) comes too near (no program in sight). -/
import Derived.Test.YtagkgfniihiinaaGreatDoorJ19
import Derived.Test.YtagkgfniihiinaaGreatDoorCert
namespace Go.Proofs.YtagkgfniihiinaaGreatDoor
def lp10 (p : Int) : Int := p * 108853 / 32768
def tN (p : Int) : Nat := 10 ^ p.toNat * 2 ^ (127 - lp10 p).toNat
def tD (p : Int) : Nat := 10 ^ (-p).toNat * 2 ^ (lp10 p - 127).toNat
def pmT (p : Int) : Nat := (tN p + tD p - 1) / tD p
def hiT (p : Int) : Nat := (pmT p + 18446744073709551615) / 18446744073709551616
def loT (p : Int) : Nat := hiT p * 18446744073709551616 - pmT p
theorem tN_pos (p : Int) : 0 < tN p := Nat.mul_pos (Nat.pow_pos (by decide)) (Nat.two_pow_pos _)
theorem D8 (p : Int) : 0 < tD p := Nat.mul_pos (Nat.pow_pos (by decide)) (Nat.two_pow_pos _)
theorem pm_eq (p : Int) : hiT p * 18446744073709551616 - loT p = pmT p := by unfold loT hiT; omega
theorem lo_lt (p : Int) : loT p < 18446744073709551616 := by unfold loT hiT; omega
theorem pm_up (p : Int) : tN p <= pmT p * tD p := by
 have hD := D8 p
 have h := Nat.div_add_mod (tN p + tD p - 1) (tD p)
 have h2 := Nat.mod_lt (tN p + tD p - 1) hD
 unfold pmT
 rw [Nat.mul_comm]
 generalize tD p * ((tN p + tD p - 1) / tD p) = z at *
 omega
theorem pm_low (p : Int) : (pmT p - 1) * tD p < tN p := by
 have hD := D8 p
 have hN := tN_pos p
 have h := Nat.div_mul_le_self (tN p + tD p - 1) (tD p)
 unfold pmT
 rw [Nat.sub_mul, Nat.one_mul]
 generalize (tN p + tD p - 1) / tD p * tD p = z at *
 omega
def okF (s j L : Nat) (p : Int) (c : Nat × Nat) : Bool :=
 let A := tN p
 let B := tD p * 2 ^ (128 + s - j)
 let p0 := c.1 * A / B
 let r0 := c.1 * A % B
 let p1 := (p0 * c.2 + 1) / c.1
 let r1 := p1 * B - c.2 * A
 let W := 18446744073709551616 * tD p / 2 ^ j + 1
 let V := (2 * 18446744073709551616 * tD p + 2 ^ j - 1) / 2 ^ j
 decide (0 < c.1) && decide (0 < c.2) && decide (p1 * c.1 = p0 * c.2 + 1) && decide (c.2 * A <= p1 * B) &&
   ((decide (r0 = 0) && decide (W <= r1) && decide (V <= r1)) || (decide (r1 = 0) && decide (W <= r0) && decide (V <= r0)) ||
     (decide (2 ^ (64 - j) <= c.1 + c.2) && decide (W <= (L + c.1 - 1) / c.1 * r0) && decide (V <= (L + c.2 - 1) / c.2 * r1)))
def hiOk (p : Int) : Bool := decide (9223372036854775808 <= hiT p) && decide (hiT p < 18446744073709551616)
def Gd (f : Int -> Nat × Nat -> Bool) : Nat -> List (Nat × Nat) -> Bool
 | _, [] => true
 | i, c :: l => f ((i : Int) - 348) c && Gd f (i + 1) l
theorem allOk_at {f : Int -> Nat × Nat -> Bool} : ∀ {l : List (Nat × Nat)} {i : Nat}, Gd f i l = true -> ∀ n, n < l.length -> ∃ c, f (((i + n : Nat) : Int) - 348) c = true
 | [], _, _, n, hn => by simp at hn
 | c :: l, i, h, n, hn => by
   rw [Gd, Bool.and_eq_true] at h
   cases n with
   | zero => exact ⟨c, h.1⟩
   | succ n =>
     obtain ⟨d, hd⟩ := allOk_at h.2 n (by simpa using hn)
     refine ⟨d, ?_⟩
     rw [show i + (n + 1) = i + 1 + n by omega]
     exact hd
theorem ceil_pos {L q : Nat} (hL : 0 < L) (hq : 0 < q) : 0 < (L + q - 1) / q /\ ((L + q - 1) / q - 1) * q < L := by
 have h1 : 0 < (L + q - 1) / q := Nat.div_pos (by omega) hq
 refine ⟨h1, ?_⟩
 have h := Nat.div_mul_le_self (L + q - 1) q
 rw [Nat.sub_mul, Nat.one_mul]
 generalize (L + q - 1) / q * q = z at *
 omega
theorem clear_of {s j L x : Nat} {p : Int} {c : Nat × Nat} (hok : okF s j L p c = true) (hL : 0 < L) (hx : L <= x) (hx2 : x < 2 ^ (64 - j)) (hj : j <= 128 + s) :
   Clear (2 ^ j * x * tN p) (tD p * (18446744073709551616 * 18446744073709551616) * 2 ^ s) (18446744073709551616 * tD p) (2 * 18446744073709551616 * tD p) := by
 have hE : tD p * (18446744073709551616 * 18446744073709551616) * 2 ^ s = 2 ^ j * (tD p * 2 ^ (128 + s - j)) := by
   rw [show (18446744073709551616 * 18446744073709551616 : Nat) = 2 ^ 128 by decide, Nat.mul_assoc, <- Nat.pow_add, Nat.mul_left_comm, <- Nat.pow_add]
   congr 2; omega
 rw [hE]
 unfold okF at hok
 have hDp := D8 p
 have hBp : 0 < tD p * 2 ^ (128 + s - j) := Nat.mul_pos hDp (Nat.two_pow_pos _)
 have hJ := Nat.two_pow_pos j
 generalize tN p = A at *
 generalize tD p = D at *
 generalize hBe : D * 2 ^ (128 + s - j) = B at *
 generalize 2 ^ j = J at *
 generalize hQ : 2 ^ (64 - j) = Q at *
 obtain ⟨q0, q1⟩ := c
 dsimp only at hok
 have f0 := Nat.div_add_mod (q0 * A) B
 generalize q0 * A / B = p0 at *
 generalize q0 * A % B = r0 at *
 generalize (p0 * q1 + 1) / q0 = p1 at *
 obtain ⟨r1, hr1⟩ : ∃ r1, r1 = p1 * B - q1 * A := ⟨_, rfl⟩
 rw [<- hr1] at hok
 have w0 := Nat.div_add_mod (18446744073709551616 * D) J
 have w1 := Nat.mod_lt (18446744073709551616 * D) hJ
 have v0 := Nat.div_add_mod (2 * 18446744073709551616 * D + J - 1) J
 have v1 := Nat.mod_lt (2 * 18446744073709551616 * D + J - 1) hJ
 generalize 18446744073709551616 * D / J = W at *
 generalize (2 * 18446744073709551616 * D + J - 1) / J = V at *
 generalize (2 * 18446744073709551616 * D + J - 1) % J = v9 at *
 generalize 18446744073709551616 * D % J = w9 at *
 simp only [Bool.and_eq_true, Bool.or_eq_true, decide_eq_true_eq] at hok
 obtain ⟨⟨⟨⟨c0, c1⟩, cd⟩, cu⟩, hcc⟩ := hok
 have hr1' : p1 * B = q1 * A + r1 := by
   generalize p1 * B = z at *
   omega
 have i0 : (q0 : Int) * A - p0 * B = r0 := by
   have : ((B * p0 + r0 : Nat) : Int) = ((q0 * A : Nat) : Int) := by rw [f0]
   simp only [Int.natCast_add, Int.natCast_mul] at this
   rw [Int.mul_comm (B : Int)] at this
   omega
 have i1 : (p1 : Int) * B - q1 * A = r1 := by
   have : ((p1 * B : Nat) : Int) = ((q1 * A + r1 : Nat) : Int) := by rw [hr1']
   simp only [Int.natCast_add, Int.natCast_mul] at this
   omega
 have id : (p1 : Int) * q0 - p0 * q1 = 1 := by
   have : ((p1 * q0 : Nat) : Int) = ((p0 * q1 + 1 : Nat) : Int) := by rw [cd]
   simp only [Int.natCast_add, Int.natCast_mul] at this
   omega
 obtain ⟨k0, k1⟩ := ceil_pos hL c0
 obtain ⟨k2, k3⟩ := ceil_pos hL c1
 constructor
 · intro k hk
   have hk' : k * B <= x * A := by
     refine Nat.le_of_mul_le_mul_left ?_ hJ
     rw [<- Nat.mul_assoc, <- Nat.mul_assoc, Nat.mul_comm J k, Nat.mul_assoc]; exact hk
   have := far_lower (A := A) (B := B) (q0 := q0) (p0 := p0) (q1 := q1) (p1 := p1) (x := x) (k := k) (r0 := r0) (r1 := r1) (W := (W + 1 : Nat)) (L := L) (by omega) (by omega) (by omega) (by omega) (by omega) i0 i1 id (by omega) (by omega)
     (by have : ((k * B : Nat) : Int) <= ((x * A : Nat) : Int) := by omega
         simpa only [Int.natCast_mul] using this)
     (by
       rcases hcc with (⟨⟨h1, h2⟩, _⟩ | ⟨⟨h1, h2⟩, _⟩) | ⟨⟨h1, h2⟩, _⟩
       · exact .inl ⟨by omega, by omega⟩
       · exact .inr (.inl ⟨by omega, by omega⟩)
       · refine .inr (.inr ⟨by omega, (((L + q0 - 1) / q0 : Nat) : Int), by omega, ?_, ?_⟩)
         · have : ((((L + q0 - 1) / q0 - 1) * q0 : Nat) : Int) < (L : Int) := by omega
           rw [Int.natCast_mul, Int.natCast_sub k0] at this
           exact this
         · have : ((W + 1 : Nat) : Int) <= (((L + q0 - 1) / q0 * r0 : Nat) : Int) := by omega
           rw [Int.natCast_mul ((L + q0 - 1) / q0)] at this
           exact this)
   rw [<- Int.natCast_mul, <- Int.natCast_mul] at this
   have e1 : J * x * A = J * (x * A) := Nat.mul_assoc _ _ _
   have e2 : k * (J * B) = J * (k * B) := Nat.mul_left_comm _ _ _
   rw [e1, e2]
   rcases this with h | h
   · left
     have : x * A = k * B := by omega
     rw [this]
   · right
     have h2 : k * B + (W + 1) <= x * A := by omega
     have h3 : J * (k * B + (W + 1)) <= J * (x * A) := Nat.mul_le_mul_left _ h2
     rw [Nat.mul_add, Nat.mul_add, Nat.mul_one] at h3
     omega
 · intro k hk
   have hk' : x * A <= k * B := by
     refine Nat.le_of_mul_le_mul_left ?_ hJ
     rw [<- Nat.mul_assoc, <- Nat.mul_assoc, Nat.mul_comm J k, Nat.mul_assoc k]; exact hk
   have := far_upper (A := A) (B := B) (q0 := q0) (p0 := p0) (q1 := q1) (p1 := p1) (x := x) (k := k) (r0 := r0) (r1 := r1) (W := V) (L := L) (by omega) (by omega) (by omega) (by omega) (by omega) i0 i1 id (by omega) (by omega)
     (by have : ((x * A : Nat) : Int) <= ((k * B : Nat) : Int) := by omega
         simpa only [Int.natCast_mul] using this)
     (by
       rcases hcc with (⟨⟨h1, _⟩, h2⟩ | ⟨⟨h1, _⟩, h2⟩) | ⟨⟨h1, _⟩, h2⟩
       · exact .inl ⟨by omega, by omega⟩
       · exact .inr (.inl ⟨by omega, by omega⟩)
       · refine .inr (.inr ⟨by omega, (((L + q1 - 1) / q1 : Nat) : Int), by omega, ?_, ?_⟩)
         · have : ((((L + q1 - 1) / q1 - 1) * q1 : Nat) : Int) < (L : Int) := by omega
           rw [Int.natCast_mul, Int.natCast_sub k2] at this
           exact this
         · have : (V : Int) <= (((L + q1 - 1) / q1 * r1 : Nat) : Int) := by omega
           rw [Int.natCast_mul ((L + q1 - 1) / q1)] at this
           exact this)
   rw [<- Int.natCast_mul, <- Int.natCast_mul] at this
   have e1 : J * x * A = J * (x * A) := Nat.mul_assoc _ _ _
   have e2 : k * (J * B) = J * (k * B) := Nat.mul_left_comm _ _ _
   rw [e1, e2]
   rcases this with h | h
   · left
     have : x * A = k * B := by omega
     rw [this]
   · right
     have h2 : x * A + V <= k * B := by omega
     have h3 : J * (x * A + V) <= J * (k * B) := Nat.mul_le_mul_left _ h2
     rw [Nat.mul_add] at h3
     omega
theorem certF_ok : Gd (okF 4 9 9007199254740992) 0 certF = true := by decide +kernel
theorem certF_len : certF.length = 696 := by decide +kernel
theorem Gi : certP.length = 696 := by decide +kernel
theorem hi_ok : Gd (fun p _ => hiOk p) 0 certP = true := by decide +kernel
theorem at10 {f : Int -> Nat × Nat -> Bool} {l : List (Nat × Nat)} (h : Gd f 0 l = true) (hl : l.length = 696) {p : Int} (h0 : -348 <= p) (h1 : p <= 347) : ∃ c, f p c = true := by
 obtain ⟨c, hc⟩ := allOk_at h (p + 348).toNat (by omega)
 refine ⟨c, ?_⟩
 rw [show p = (((0 + (p + 348).toNat : Nat) : Int) - 348) by omega]
 exact hc
theorem Clear.more {y E W V : Nat} (h : Clear y E W V) (n : Nat) : Clear y (E * 2 ^ n) W V :=
 ⟨fun k hk => by rw [Nat.mul_comm E, <- Nat.mul_assoc] at *; exact h.low _ hk, fun k hk => by rw [Nat.mul_comm E, <- Nat.mul_assoc] at *; exact h.high _ hk⟩
theorem uscale_f {x s : Nat} {p : Int} (h0 : -348 <= p) (h1 : p <= 347) (hs : 4 <= s) (hx0 : 4611686018427387904 <= x) (hx1 : x < 18446744073709551616) (hx9 : x % 512 = 0) :
   Cd 18446744073709551616 x (hiT p) (loT p) s = unr (x * tN p) (tD p * (18446744073709551616 * 18446744073709551616) * 2 ^ s) := by
 obtain ⟨_, hh⟩ := at10 hi_ok Gi h0 h1
 rw [hiOk, Bool.and_eq_true, decide_eq_true_eq, decide_eq_true_eq] at hh
 obtain ⟨c, hc⟩ := at10 certF_ok certF_len h0 h1
 obtain ⟨z, rfl⟩ : ∃ z, x = 512 * z := ⟨x / 512, by omega⟩
 have h2 := clear_of (x := z) hc (by decide) (by omega) (by show z < 36028797018963968; omega) (by decide)
 refine uscale_gen (by decide) (by omega) hx1 (by omega) hh.2 (lo_lt p) (D8 p) ?_ ?_ ?_
 · rw [pm_eq]; exact pm_low p
 · rw [pm_eq]; exact pm_up p
 · have h3 := h2.more (s - 4)
   rw [Nat.mul_assoc _ (2 ^ 4), <- Nat.pow_add, show 4 + (s - 4) = s by omega] at h3
   exact h3
end Go.Proofs.YtagkgfniihiinaaGreatDoor
