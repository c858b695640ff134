/- Rounding: between which two midpoints a number lies; what the unrounded numbers' roundings come to (no program in sight). -/
import Derived.Test.YtagkgfniihiinaaGreatDoorFlo
import Derived.Test.YtagkgfniihiinaaGreatDoorTab10
namespace Go.Proofs.YtagkgfniihiinaaGreatDoor
theorem C8 {y E : Nat} (hE : 0 < E) : (unr y E % 2 = 0 -> y = unr y E * E) /\ (unr y E % 2 = 1 -> (unr y E - 1) * E < y /\ y < (unr y E + 1) * E) := by
 have h := Nat.div_add_mod y E
 have h2 := Nat.mod_lt y hE
 obtain ⟨q, hq⟩ : ∃ q, q = y / E := ⟨_, rfl⟩
 obtain ⟨t, ht⟩ : ∃ t, t = y % E := ⟨_, rfl⟩
 rw [<- hq, <- ht] at h
 rw [<- ht] at h2
 unfold unr
 rw [<- hq, <- ht]
 rw [Nat.mul_comm] at h
 clear hq ht
 by_cases h0 : t = 0
 · subst h0
   rw [show decide ((0 : Nat) ≠ 0) = false by rfl]
   show (q % 2 = 0 -> y = q * E) /\ (q % 2 = 1 -> (q - 1) * E < y /\ y < (q + 1) * E)
   refine ⟨fun _ => by omega, fun hq => ?_⟩
   have e1 : q * E = (q - 1) * E + E := by rw [<- Nat.succ_mul]; congr 1; omega
   have e2 : (q + 1) * E = q * E + E := Nat.succ_mul _ _
   omega
 · rw [show decide (t ≠ 0) = true by simpa using h0]
   show ((q / 2 * 2 + 1) % 2 = 0 -> _) /\ (_ -> (q / 2 * 2 + 1 - 1) * E < y /\ y < (q / 2 * 2 + 1 + 1) * E)
   refine ⟨fun h => by omega, fun _ => ?_⟩
   rw [Nat.add_sub_cancel]
   have l1 : q / 2 * 2 * E <= q * E := Nat.mul_le_mul_right _ (by omega)
   have l2 : (q + 1) * E <= (q / 2 * 2 + 1 + 1) * E := Nat.mul_le_mul_right _ (by omega)
   rw [Nat.succ_mul] at l2
   omega
def rndU (u : Nat) : Nat := (u + 1 + u / 4 % 2) / 4
theorem rndU_spec {y E : Nat} (hE : 0 < E) : y <= (4 * rndU (unr y E) + 2) * E /\ 4 * rndU (unr y E) * E <= y + 2 * E /\ (y = (4 * rndU (unr y E) + 2) * E \/ 4 * rndU (unr y E) * E = y + 2 * E -> rndU (unr y E) % 2 = 0) := by
 obtain ⟨s0, s1⟩ := C8 (y := y) hE
 obtain ⟨u, hu⟩ : ∃ u, u = unr y E := ⟨_, rfl⟩
 rw [<- hu] at s0 s1 ⊢
 obtain ⟨m, hm⟩ : ∃ m, m = rndU u := ⟨_, rfl⟩
 have hm' := hm
 unfold rndU at hm'
 rw [<- hm]
 clear hu hm
 have em : (4 * m + 2) * E = 4 * m * E + 2 * E := Nat.add_mul _ _ _
 rcases (show u % 4 = 0 \/ u % 4 = 1 \/ u % 4 = 2 \/ u % 4 = 3 by omega) with h | h | h | h
 · have hy := s0 (by omega)
   obtain rfl : u = 4 * m := by omega
   omega
 · obtain ⟨h1, h2⟩ := s1 (by omega)
   obtain rfl : u = 4 * m + 1 := by omega
   rw [Nat.add_sub_cancel] at h1
   rw [show 4 * m + 1 + 1 = 4 * m + 2 by omega] at h2
   omega
 · have hy := s0 (by omega)
   by_cases hp : u / 4 % 2 = 0
   · obtain rfl : u = 4 * m + 2 := by omega
     have : m % 2 = 0 := by omega
     omega
   · obtain ⟨k, rfl⟩ : ∃ k, m = k + 1 := ⟨m - 1, by omega⟩
     obtain rfl : u = 4 * k + 2 := by omega
     have e1 : 4 * (k + 1) * E = 4 * k * E + 4 * E := by rw [Nat.mul_add, Nat.add_mul]
     have e2 : (4 * k + 2) * E = 4 * k * E + 2 * E := Nat.add_mul _ _ _
     have : (k + 1) % 2 = 0 := by omega
     omega
 · obtain ⟨h1, h2⟩ := s1 (by omega)
   obtain ⟨k, rfl⟩ : ∃ k, m = k + 1 := ⟨m - 1, by omega⟩
   obtain rfl : u = 4 * k + 3 := by omega
   have e1 : 4 * (k + 1) * E = 4 * k * E + 4 * E := by rw [Nat.mul_add, Nat.add_mul]
   have e2 : (4 * k + 3 - 1) * E = 4 * k * E + 2 * E := by rw [show 4 * k + 3 - 1 = 4 * k + 2 by omega, Nat.add_mul]
   have e3 : (4 * k + 3 + 1) * E = 4 * k * E + 4 * E := by rw [show 4 * k + 3 + 1 = 4 * k + 4 by omega, Nat.add_mul]
   omega
theorem Ge {y E : Nat} (hE : 0 < E) {o : Nat} (ho : o <= 1) (d : Nat) : (unr y E + o + 3) / 4 <= d ↔ y + o <= 4 * d * E := by
 obtain ⟨s0, s1⟩ := C8 (y := y) hE
 obtain ⟨u, hu⟩ : ∃ u, u = unr y E := ⟨_, rfl⟩
 rw [<- hu] at s0 s1 ⊢
 clear hu
 have key : (u + o + 3) / 4 <= d ↔ u + o <= 4 * d := by omega
 rw [key]
 rcases Nat.mod_two_eq_zero_or_one u with h | h
 · have hy := s0 h
   constructor
   · intro h1
     have : (u + o) * E <= 4 * d * E := Nat.mul_le_mul_right _ h1
     rw [Nat.add_mul] at this
     have : o <= o * E := Nat.le_mul_of_pos_right _ hE
     omega
   · intro h1
     by_cases h2 : u + o <= 4 * d
     · exact h2
     · rcases (show 4 * d = u \/ 4 * d < u by omega) with h3 | h3
       · rw [h3] at h1; omega
       · have : (4 * d + 1) * E <= u * E := Nat.mul_le_mul_right _ h3
         rw [Nat.add_mul, Nat.one_mul] at this
         omega
 · obtain ⟨h1, h2⟩ := s1 h
   constructor
   · intro h3
     have : (u + 1) * E <= 4 * d * E := Nat.mul_le_mul_right _ (by omega)
     omega
   · intro h3
     by_cases h4 : u + 1 <= 4 * d
     · omega
     · have : 4 * d * E <= (u - 1) * E := Nat.mul_le_mul_right _ (by omega)
       omega
theorem Fy {y E : Nat} (hE : 0 < E) {o : Nat} (ho : o <= 1) (hu : 1 <= unr y E) (d : Nat) : d <= (unr y E - o) / 4 ↔ 4 * d * E + o <= y := by
 obtain ⟨s0, s1⟩ := C8 (y := y) hE
 obtain ⟨u, hu'⟩ : ∃ u, u = unr y E := ⟨_, rfl⟩
 rw [<- hu'] at s0 s1 hu ⊢
 clear hu'
 have key : d <= (u - o) / 4 ↔ 4 * d + o <= u := by omega
 rw [key]
 rcases Nat.mod_two_eq_zero_or_one u with h | h
 · have hy := s0 h
   constructor
   · intro h1
     have : (4 * d + o) * E <= u * E := Nat.mul_le_mul_right _ h1
     rw [Nat.add_mul] at this
     have : o <= o * E := Nat.le_mul_of_pos_right _ hE
     omega
   · intro h1
     by_cases h2 : 4 * d + o <= u
     · exact h2
     · rcases (show 4 * d = u \/ u < 4 * d by omega) with h3 | h3
       · rw [h3] at h1; omega
       · have : (u + 1) * E <= 4 * d * E := Nat.mul_le_mul_right _ h3
         rw [Nat.add_mul, Nat.one_mul] at this
         omega
 · obtain ⟨h1, h2⟩ := s1 h
   constructor
   · intro h3
     have : 4 * d * E <= (u - 1) * E := Nat.mul_le_mul_right _ (by omega)
     omega
   · intro h3
     by_cases h4 : 4 * d + 1 <= u
     · omega
     · have : (u + 1) * E <= 4 * d * E := Nat.mul_le_mul_right _ (by omega)
       omega
def mid (r : Nat) : Nat := rv r + rv (r + 1)
theorem mid_lt {r s : Nat} (h : r < s) : mid r < mid s := by
 have := F4 h
 have := F4 (show r + 1 < s + 1 by omega)
 unfold mid; omega
theorem mid_le {r s : Nat} (h : r <= s) : mid r <= mid s := by
 rcases Nat.eq_or_lt_of_le h with h | h
 · rw [h]; exact Nat.le_refl _
 · exact Nat.le_of_lt (mid_lt h)
structure InI (r a b : Nat) : Prop where
 low : r = 0 \/ mid (r - 1) * b < a \/ (mid (r - 1) * b = a /\ r % 2 = 0)
 high : a < mid r * b \/ (a = mid r * b /\ r % 2 = 0)
theorem InI.uniq {r r' a b : Nat} (hb : 0 < b) (h : InI r a b) (h' : InI r' a b) : r = r' := by
 have key : ∀ {r r' : Nat}, InI r a b -> InI r' a b -> ¬ r < r' := by
   intro r r' h h' hlt
   have h1 := h.high
   have h2 := h'.low
   have h3 : mid r * b <= mid (r' - 1) * b := Nat.mul_le_mul_right _ (mid_le (by omega))
   rcases Nat.eq_or_lt_of_le (show r <= r' - 1 by omega) with h4 | h4
   · rw [<- h4] at h2; omega
   · have h5 : mid r * b < mid (r' - 1) * b := Nat.mul_lt_mul_of_pos_right (mid_lt h4) hb
     omega
 rcases Nat.lt_trichotomy r r' with h1 | h1 | h1
 · exact absurd h1 (key h h')
 · exact h1
 · exact absurd h1 (key h' h)
theorem InI.scale {r a b : Nat} {c : Nat} (hc : 0 < c) : InI r (a * c) (b * c) ↔ InI r a b := by
 have e : ∀ m : Nat, m * (b * c) = m * b * c := fun m => (Nat.mul_assoc _ _ _).symm
 have l : ∀ x y : Nat, x * c < y * c ↔ x < y := fun x y => ⟨fun h => Nat.lt_of_mul_lt_mul_right h, fun h => Nat.mul_lt_mul_of_pos_right h hc⟩
 have q : ∀ x y : Nat, x * c = y * c ↔ x = y := fun x y => ⟨fun h => Nat.eq_of_mul_eq_mul_right hc h, fun h => by rw [h]⟩
 constructor
 · intro ⟨h1, h2⟩
   rw [e, l, q] at h1 h2
   exact ⟨h1, h2⟩
 · intro ⟨h1, h2⟩
   refine ⟨?_, ?_⟩
   · rw [e, l, q]; exact h1
   · rw [e, l, q]; exact h2
theorem rv_at {k m : Nat} (h0 : k = 0 \/ 4503599627370496 <= m) (h1 : m <= 9007199254740992) : rv (k * 4503599627370496 + m) = m * 2 ^ k := by
 unfold rv
 by_cases h2 : k * 4503599627370496 + m < 4503599627370496
 · rw [if_pos h2]
   obtain rfl : k = 0 := by omega
   simp
 · rw [if_neg h2]
   rcases Nat.eq_or_lt_of_le h1 with h3 | h3
   · subst h3
     rw [show (k * 4503599627370496 + 9007199254740992) % 4503599627370496 = 0 by omega, show (k * 4503599627370496 + 9007199254740992) / 4503599627370496 - 1 = k + 1 by omega, Nat.pow_succ]
     omega
   · by_cases h4 : 4503599627370496 <= m
     · rw [show 4503599627370496 + (k * 4503599627370496 + m) % 4503599627370496 = m by omega, show (k * 4503599627370496 + m) / 4503599627370496 - 1 = k by omega]
     · omega
def A3 (d : Nat) : Nat := if d = 0 then 0 else d.log2 + 1
theorem Fp {d : Nat} (h : 0 < d) : 2 ^ (A3 d - 1) <= d /\ d < 2 ^ A3 d /\ 1 <= A3 d := by
 unfold A3
 rw [if_neg (by omega), Nat.add_sub_cancel]
 exact ⟨Nat.log2_self_le (by omega), Nat.lt_log2_self, by omega⟩
theorem Fj {d : Nat} (h : d < 18446744073709551616) : A3 d <= 64 := by
 unfold A3
 split
 · omega
 · have := (Nat.log2_lt (n := d) (k := 64) (by omega)).2 h
   omega
theorem norm64 {d : Nat} (h : 0 < d) (h2 : d < 18446744073709551616) : 9223372036854775808 <= d * 2 ^ (64 - A3 d) /\ d * 2 ^ (64 - A3 d) < 18446744073709551616 := by
 obtain ⟨a, b, c⟩ := Fp h
 have l := Fj h2
 constructor
 · have : 2 ^ (A3 d - 1) * 2 ^ (64 - A3 d) <= d * 2 ^ (64 - A3 d) := Nat.mul_le_mul_right _ a
   rw [<- Nat.pow_add, show A3 d - 1 + (64 - A3 d) = 63 by omega] at this
   exact this
 · have : d * 2 ^ (64 - A3 d) < 2 ^ A3 d * 2 ^ (64 - A3 d) := Nat.mul_lt_mul_of_pos_right b (Nat.two_pow_pos _)
   rw [<- Nat.pow_add, show A3 d + (64 - A3 d) = 64 by omega] at this
   exact this
def hp : Nat := 1075
def decA (d : Nat) (p : Int) : Nat := d * 10 ^ p.toNat * 2 ^ hp
def Av (p : Int) : Nat := 10 ^ (-p).toNat
theorem four (m T : Nat) : 4 * m * T = 2 * (2 * m * T) := by rw [<- Nat.mul_assoc 2 (2 * m) T, <- Nat.mul_assoc 2 2 m]
end Go.Proofs.YtagkgfniihiinaaGreatDoor
