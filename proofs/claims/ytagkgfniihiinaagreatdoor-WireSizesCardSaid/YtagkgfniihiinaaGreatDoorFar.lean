/- Two neighbours and what lies between them: how near multiples of A come to multiples of B (no program in sight). -/
namespace Go.Proofs.YtagkgfniihiinaaGreatDoor
theorem far_id {A B q0 p0 q1 p1 x k r0 r1 : Int} (h0 : q0 * A - p0 * B = r0) (h1 : p1 * B - q1 * A = r1) (det : p1 * q0 - p0 * q1 = 1) :
   x * A - k * B = (p1 * x - q1 * k) * r0 - (q0 * k - p0 * x) * r1 := by grind
theorem far_x {q0 p0 q1 p1 x k : Int} (det : p1 * q0 - p0 * q1 = 1) : (p1 * x - q1 * k) * q0 + (q0 * k - p0 * x) * q1 = x := by grind
theorem far_a {A B q1 p1 x k r1 : Int} (hB : 0 < B) (hx : 0 <= x) (hq : 0 <= q1) (h1 : p1 * B - q1 * A = r1) (hr : 0 <= r1) (hk : k * B <= x * A) : 0 <= p1 * x - q1 * k := by
 have e : (p1 * x - q1 * k) * B = x * r1 + q1 * (x * A - k * B) := by grind
 have h2 : 0 <= x * r1 := Int.mul_nonneg hx hr
 have h3 : 0 <= q1 * (x * A - k * B) := Int.mul_nonneg hq (by omega)
 have h4 : 0 <= (p1 * x - q1 * k) * B := by omega
 exact Int.nonneg_of_mul_nonneg_left h4 hB
theorem far_b {A B q0 p0 x k r0 : Int} (hB : 0 < B) (hx : 0 <= x) (hq : 0 <= q0) (h0 : q0 * A - p0 * B = r0) (hr : 0 <= r0) (hk : x * A <= k * B) : 0 <= q0 * k - p0 * x := by
 have e : (q0 * k - p0 * x) * B = x * r0 + q0 * (k * B - x * A) := by grind
 have h2 : 0 <= x * r0 := Int.mul_nonneg hx hr
 have h3 : 0 <= q0 * (k * B - x * A) := Int.mul_nonneg hq (by omega)
 have h4 : 0 <= (q0 * k - p0 * x) * B := by omega
 exact Int.nonneg_of_mul_nonneg_left h4 hB
theorem C2 {b r d : Int} (hb : 0 <= b) (hr : 0 <= r) (hd : d = b * r) : d = 0 \/ r <= d := by
 rcases Int.lt_or_eq_of_le hb with h | h
 · right
   have : 0 <= (b - 1) * r := Int.mul_nonneg (by omega) hr
   rw [Int.sub_mul] at this
   omega
 · left; rw [hd, <- h]; omega
theorem far_lower {A B q0 p0 q1 p1 x k r0 r1 W L : Int} (hB : 0 < B) (hx : L <= x) (hL : 0 < L) (hq0 : 0 < q0) (hq1 : 0 < q1) (h0 : q0 * A - p0 * B = r0) (h1 : p1 * B - q1 * A = r1) (det : p1 * q0 - p0 * q1 = 1)
   (n0 : 0 <= r0) (n1 : 0 <= r1) (hk : k * B <= x * A)
   (hc : (r0 = 0 /\ W <= r1) \/ (r1 = 0 /\ W <= r0) \/ (x < q0 + q1 /\ ∃ c, 0 < c /\ (c - 1) * q0 < L /\ W <= c * r0)) : x * A - k * B = 0 \/ W <= x * A - k * B := by
 have hx0 : 0 < x := by omega
 have hid := far_id (x := x) (k := k) h0 h1 det
 have hxx := far_x (x := x) (k := k) det
 have ha := far_a hB (by omega) (by omega) h1 n1 hk
 rcases hc with ⟨z, hw⟩ | ⟨z, hw⟩ | ⟨hf, c, hc0, hcq, hw⟩
 · -- exact from below: b <= 0
   have hb : q0 * k - p0 * x <= 0 := by
     have e : (q0 * k - p0 * x) * B = x * r0 + q0 * (k * B - x * A) := by grind
     have h3 : q0 * (k * B - x * A) <= 0 := Int.mul_nonpos_of_nonneg_of_nonpos (by omega) (by omega)
     rw [z] at e
     by_cases hp : 0 < q0 * k - p0 * x
     · have := Int.mul_pos hp hB; omega
     · omega
   have hd : x * A - k * B = (-(q0 * k - p0 * x)) * r1 := by rw [hid, z, Int.neg_mul]; omega
   rcases C2 (by omega) n1 hd with h | h
   · exact .inl h
   · exact .inr (by omega)
 · have hd : x * A - k * B = (p1 * x - q1 * k) * r0 := by rw [hid, z]; omega
   rcases C2 ha n0 hd with h | h
   · exact .inl h
   · exact .inr (by omega)
 · generalize ea : p1 * x - q1 * k = a at *
   generalize eb : q0 * k - p0 * x = b at *
   have ha' : 0 <= a * q0 := Int.mul_nonneg ha (by omega)
   by_cases hbp : 0 < b
   · have hb1 : 0 <= (b - 1) * q1 := Int.mul_nonneg (by omega) (by omega)
     rw [Int.sub_mul] at hb1
     by_cases ha1 : a = 0
     · left
       subst ha1
       have := far_b (x := x) (k := k) (A := A) (B := B) hB (by omega) (by omega : (0:Int) <= q0) h0 n0
       have hbr : 0 <= b * r1 := Int.mul_nonneg (by omega) n1
       omega
     · have h9 : 0 <= (a - 1) * q0 := Int.mul_nonneg (by omega) (by omega)
       rw [Int.sub_mul] at h9
       omega
   · right
     have h5 : 0 <= (-b) * r1 := Int.mul_nonneg (by omega) n1
     have h6 : 0 <= (-b) * q1 := Int.mul_nonneg (by omega) (by omega)
     rw [Int.neg_mul] at h5 h6
     have h7 : c <= a := by
       by_cases h8 : c <= a
       · exact h8
       · have h9 : a * q0 <= (c - 1) * q0 := Int.mul_le_mul_of_nonneg_right (by omega) (by omega)
         omega
     have h8 : c * r0 <= a * r0 := Int.mul_le_mul_of_nonneg_right h7 n0
     omega
theorem far_upper {A B q0 p0 q1 p1 x k r0 r1 W L : Int} (hB : 0 < B) (hx : L <= x) (hL : 0 < L) (hq0 : 0 < q0) (hq1 : 0 < q1) (h0 : q0 * A - p0 * B = r0) (h1 : p1 * B - q1 * A = r1) (det : p1 * q0 - p0 * q1 = 1)
   (n0 : 0 <= r0) (n1 : 0 <= r1) (hk : x * A <= k * B)
   (hc : (r0 = 0 /\ W <= r1) \/ (r1 = 0 /\ W <= r0) \/ (x < q0 + q1 /\ ∃ c, 0 < c /\ (c - 1) * q1 < L /\ W <= c * r1)) : k * B - x * A = 0 \/ W <= k * B - x * A := by
 have hx0 : 0 < x := by omega
 have hid := far_id (x := x) (k := k) h0 h1 det
 have hxx := far_x (x := x) (k := k) det
 have hb := far_b hB (by omega) (by omega) h0 n0 hk
 rcases hc with ⟨z, hw⟩ | ⟨z, hw⟩ | ⟨hf, c, hc0, hcq, hw⟩
 · have hd : k * B - x * A = (q0 * k - p0 * x) * r1 := by rw [z] at hid; omega
   rcases C2 hb n1 hd with h | h
   · exact .inl h
   · exact .inr (by omega)
 · have ha : p1 * x - q1 * k <= 0 := by
     have e : (p1 * x - q1 * k) * B = x * r1 + q1 * (x * A - k * B) := by grind
     have h3 : q1 * (x * A - k * B) <= 0 := Int.mul_nonpos_of_nonneg_of_nonpos (by omega) (by omega)
     rw [z] at e
     by_cases hp : 0 < p1 * x - q1 * k
     · have := Int.mul_pos hp hB; omega
     · omega
   have hd : k * B - x * A = (-(p1 * x - q1 * k)) * r0 := by rw [z] at hid; rw [Int.neg_mul]; omega
   rcases C2 (by omega) n0 hd with h | h
   · exact .inl h
   · exact .inr (by omega)
 · generalize ea : p1 * x - q1 * k = a at *
   generalize eb : q0 * k - p0 * x = b at *
   have hb' : 0 <= b * q1 := Int.mul_nonneg hb (by omega)
   by_cases hap : 0 < a
   · have ha1 : 0 <= (a - 1) * q0 := Int.mul_nonneg (by omega) (by omega)
     rw [Int.sub_mul] at ha1
     by_cases hb1 : b = 0
     · left
       subst hb1
       have har : 0 <= a * r0 := Int.mul_nonneg (by omega) n0
       omega
     · have h9 : 0 <= (b - 1) * q1 := Int.mul_nonneg (by omega) (by omega)
       rw [Int.sub_mul] at h9
       omega
   · right
     have h5 : 0 <= (-a) * r0 := Int.mul_nonneg (by omega) n0
     have h6 : 0 <= (-a) * q0 := Int.mul_nonneg (by omega) (by omega)
     rw [Int.neg_mul] at h5 h6
     have h7 : c <= b := by
       by_cases h8 : c <= b
       · exact h8
       · have h9 : b * q1 <= (c - 1) * q1 := Int.mul_le_mul_of_nonneg_right (by omega) (by omega)
         omega
     have h8 : c * r1 <= b * r1 := Int.mul_le_mul_of_nonneg_right h7 n1
     omega
end Go.Proofs.YtagkgfniihiinaaGreatDoor
