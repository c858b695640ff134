/- The text of any number is a number's text, its digits lie nearest to that number, and unlike numbers have unlike texts: plain. -/
import Derived.Test.YtagkgfniihiinaaGreatDoorJ23
namespace Go.Proofs.YtagkgfniihiinaaGreatDoor
theorem Cy (s : ByteArray) : s.size = s.data.toList.length := by rw [Array.length_toList]; rfl
theorem exp_head {X : List UInt8} {x : Int} (h : ExpAt X x) : ∀ c l, X = c :: l -> c = 101 := by
 intro c l e
 cases h with
 | none => cases e
 | bare _ _ => cases e; rfl
 | plus _ _ => cases e; rfl
 | minus _ _ => cases e; rfl
theorem exp_okC {X : List UInt8} {x : Int} (h : ExpAt X x) : ∀ b ∈ X, okC b := by
 intro b hb
 cases h with
 | none => cases hb
 | bare _ hd =>
   rcases List.mem_cons.1 hb with rfl | hb
   · exact .inr (.inr (.inl rfl))
   · exact .inl (hd b hb)
 | plus _ hd =>
   rcases List.mem_cons.1 hb with rfl | hb
   · exact .inr (.inr (.inl rfl))
   · rcases List.mem_cons.1 hb with rfl | hb
     · exact .inr (.inr (.inr (.inl rfl)))
     · exact .inl (hd b hb)
 | minus _ hd =>
   rcases List.mem_cons.1 hb with rfl | hb
   · exact .inr (.inr (.inl rfl))
   · rcases List.mem_cons.1 hb with rfl | hb
     · exact .inr (.inr (.inr (.inr rfl)))
     · exact .inl (hd b hb)
def Bt (fr : Bool) (F : List UInt8) : List UInt8 := if fr then 46 :: F else []
theorem scan_exp {X : List UInt8} {x : Int} (h : ExpAt X x) (d : Bool) (L : List UInt8) (m : Nat) : Dh X d L m = (d, L, m, X) := by
 cases hx : X with
 | nil => rfl
 | cons c l =>
   have := exp_head h c l hx
   subst this
   rw [Dh, if_neg (by decide), if_neg (by decide)]
theorem scan_form {A F X : List UInt8} {fr : Bool} {x : Int} (hAd : ∀ c ∈ A, isD c = true) (hF : fr = false -> F = []) (hFd : ∀ c ∈ F, isD c = true) (hX : ExpAt X x) :
   Dh (A ++ (Bt fr F ++ X)) false [] 0 = (fr, A ++ F, if fr then F.length else A.length, X) := by
 rw [Dc hAd, List.nil_append, Nat.zero_add]
 cases fr
 · rw [hF rfl]
   show Dh X false A A.length = _
   rw [scan_exp hX, List.append_nil]; rfl
 · show Dh (46 :: (F ++ X)) false A A.length = _
   rw [Dh, if_pos (by decide), if_neg (by decide), Dc hFd, scan_exp hX, Nat.zero_add]; rfl
theorem txt_form {s : ByteArray} {A F X : List UInt8} {fr : Bool} {x : Int} {neg : Bool} (hs : s.data.toList = A4 neg ++ (A ++ (Bt fr F ++ X))) (hz : s.size <= 1000) (hA : A ≠ []) (hAd : ∀ c ∈ A, isD c = true) (hF : fr = false -> F = [])
   (hFd : ∀ c ∈ F, isD c = true) (hX : ExpAt X x) : FTxt s neg fr (A ++ F) (if fr then F.length else A.length) x /\ ∃ c l, s.data.toList = (if neg then [45] else []) ++ c :: l /\ isD c = true := by
 cases hAe : A with
 | nil => exact absurd hAe hA
 | cons c T =>
   have hc := hAd c (by rw [hAe]; exact List.mem_cons_self ..)
   have e : A ++ (Bt fr F ++ X) = c :: (T ++ (Bt fr F ++ X)) := by rw [hAe]; rfl
   rw [<- hAe]
   refine ⟨⟨⟨c, T ++ (Bt fr F ++ X), X, ?_, hc, ?_, hX, ?_⟩, hz, fun e => hA (List.append_eq_nil_iff.1 e).1⟩, c, T ++ (Bt fr F ++ X), ?_, hc⟩
   · rw [hs, e]; rfl
   · rw [<- e]; exact scan_form hAd hF hFd hX
   · intro b hb
     rw [<- e] at hb
     rcases List.mem_append.1 hb with hb | hb
     · exact .inl (hAd b hb)
     · rcases List.mem_append.1 hb with hb | hb
       · unfold Bt at hb
         cases fr
         · cases hb
         · rcases List.mem_cons.1 hb with rfl | hb
           · exact .inr (.inl rfl)
           · exact .inl (hFd b hb)
       · exact exp_okC hX b hb
   · rw [hs, e]; rfl
theorem E1 {d r : Nat} : ∀ (j : Nat) (p : Int), InI r (decA (d * 10 ^ j) p) (Av p) ↔ InI r (decA d (p + j)) (Av (p + j))
 | 0, p => by simp
 | j + 1, p => by
   rw [Nat.pow_succ, <- Nat.mul_assoc, decA_ten, E1 j (1 + p), show 1 + p + (j : Int) = p + ((j + 1 : Nat) : Int) by omega]
theorem dig_spec {r : Nat} (h0 : 0 < r) (hr : r < 9218868437227405312) : ∃ c T, digL r = c :: T /\ c ≠ 48 /\ (digL r).length <= 18 /\ InI r (decA (valD (digL r)) (A2 r - (digL r).length)) (Av (A2 r - (digL r).length)) /\ 0 < valD (digL r) := by
 obtain ⟨a, b, _, _⟩ := B2 h0 hr
 have hok := short_ok h0 hr
 unfold digL A2
 rw [if_neg (by omega), if_neg (by omega)]
 obtain ⟨d, hd⟩ : ∃ d, (Au r).1 = d := ⟨_, rfl⟩
 obtain ⟨q, hq⟩ : ∃ q, (Au r).2 = q := ⟨_, rfl⟩
 rw [hd] at a b hok ⊢
 rw [hq] at hok ⊢
 obtain ⟨n, hn⟩ := Ct (Lib.decDigits d)
 have hlen := congrArg List.length hn
 rw [List.length_append, List.length_replicate, Lib.decDigits_length] at hlen
 have hval : d = valD (A1 (Lib.decDigits d)) * 10 ^ n := by
   have h1 := Fh (Lib.decDigits d)
   rw [dec_val, Lib.decDigits_length, hlen, Nat.add_sub_cancel_left] at h1
   exact h1
 have h18 : Lib.nDigits d <= 18 := nDig_le 17 d b
 obtain ⟨c, l, hc, hc48⟩ := dec_head (u := d) a
 obtain ⟨D, hD⟩ : ∃ D, A1 (Lib.decDigits d) = D := ⟨_, rfl⟩
 rw [hD] at hn hlen hval ⊢
 have hv0 : 0 < valD D := by
   rcases Nat.eq_zero_or_pos (valD D) with h | h
   · rw [h, Nat.zero_mul] at hval; omega
   · exact h
 cases D with
 | nil => exact absurd hv0 (by decide)
 | cons c2 T =>
   refine ⟨c2, T, rfl, ?_, by omega, ?_, hv0⟩
   · rw [hn, List.cons_append] at hc
     rw [(List.cons.inj hc).1]; exact hc48
   · rw [hval] at hok
     have := (E1 n q).1 hok
     have e : ((Lib.nDigits d : Nat) : Int) + q - ((c2 :: T).length : Nat) = q + (n : Int) := by omega
     rw [e]; exact this
def topP (n : Nat) : Nat := 1 * 10 ^ n * 2 ^ Go.Proofs.YtagkgfniihiinaaGreatDoor.hp
theorem mid_topP : mid 9218868437227405311 < topP 311 := by decide +kernel
def lowP : Nat := 18446744073709551616 * 10 ^ 0 * 2 ^ Go.Proofs.YtagkgfniihiinaaGreatDoor.hp
def tenP (n : Nat) : Nat := 10 ^ n
theorem low_topP : lowP < tenP 346 := by decide +kernel
theorem dec_low {d D : Nat} (hd : d <= D) (c : Nat) {n m : Nat} (h : n <= m) : d * 10 ^ n * 2 ^ c <= D * 10 ^ m * 2 ^ c :=
 Nat.mul_le_mul_right _ (Nat.mul_le_mul hd (Nat.pow_le_pow_right (by decide) h))
theorem p_bounds {r d : Nat} {p : Int} (h0 : 0 < r) (hr : r < 9218868437227405312) (hd : 0 < d) (hd2 : d <= 18446744073709551616) (h : InI r (decA d p) (Av p)) : -345 <= p /\ p <= 310 := by
 constructor
 · rcases Int.lt_or_le p (-345) with h1 | h1
   · exfalso
     obtain ⟨n, hn⟩ : ∃ n : Nat, n = 346 := ⟨_, rfl⟩
     have hlo : lowP < tenP n := by rw [hn]; exact low_topP
     have hb : tenP n <= Av p := Nat.pow_le_pow_right (by decide) (by omega)
     clear hn
     have h2 : mid (r - 1) * Av p <= decA d p := by
       rcases h.low with h | h | h
       · omega
       · exact Nat.le_of_lt h
       · exact Nat.le_of_eq h.1
     have h3 : 1 <= mid (r - 1) := by
       have := mid_le (r := 0) (s := r - 1) (Nat.zero_le _)
       exact Nat.le_trans (by decide +kernel) this
     have h4 : Av p <= mid (r - 1) * Av p := Nat.le_mul_of_pos_left _ h3
     have h5 : decA d p <= lowP := dec_low hd2 Go.Proofs.YtagkgfniihiinaaGreatDoor.hp (by omega)
     exact absurd (Nat.le_trans hb (Nat.le_trans h4 (Nat.le_trans h2 h5))) (Nat.not_le.2 hlo)
   · exact h1
 · rcases Int.lt_or_le 310 p with h1 | h1
   · exfalso
     have hb : Av p = 1 := by unfold Av; rw [show (-p).toNat = 0 by omega, Nat.pow_zero]
     have h2 : decA d p <= mid r * Av p := by
       rcases h.high with h | h
       · exact Nat.le_of_lt h
       · exact Nat.le_of_eq h.1
     rw [hb, Nat.mul_one] at h2
     have h3 : mid r <= mid 9218868437227405311 := mid_le (by omega)
     obtain ⟨n, hn⟩ : ∃ n : Nat, n = 311 := ⟨_, rfl⟩
     have h6 : mid 9218868437227405311 < topP n := by rw [hn]; exact mid_topP
     have h311 : n <= p.toNat := by omega
     have h5 : topP n <= decA d p := dec_low hd Go.Proofs.YtagkgfniihiinaaGreatDoor.hp h311
     clear hn
     exact absurd (Nat.le_trans h5 (Nat.le_trans h2 h3)) (Nat.not_le.2 h6)
   · exact h1
def eL (n : Nat) : List UInt8 := if n < 10 then [48, dg8 n] else if n < 100 then [dg8 (n / 10), dg8 (n % 10)] else [dg8 (n / 100), dg8 (n / 10 % 10), dg8 (n % 10)]
def eOk (n : Nat) : Bool := !(eL n).isEmpty && (eL n).all isD && (capE (eL n) == n)
theorem exp_tab : allN 1000 eOk = true := by decide +kernel
theorem expL_is (x : Int) (h : x.natAbs < 1000) : ExpAt (101 :: expL x) x := by
 have key := D1 exp_tab x.natAbs h
 unfold eOk at key
 rw [show expL x = (if x < 0 then 45 else 43) :: eL x.natAbs from rfl]
 generalize eL x.natAbs = E at key ⊢
 rw [Bool.and_eq_true, Bool.and_eq_true, beq_iff_eq, List.all_eq_true] at key
 obtain ⟨⟨k0, k2⟩, k3⟩ := key
 have k1 : E ≠ [] := fun e => by rw [e] at k0; cases k0
 split
 · have := ExpAt.minus k1 k2
   rw [k3] at this
   rw [show x = -((x.natAbs : Nat) : Int) by omega]
   rw [show (-((x.natAbs : Nat) : Int)) = -((x.natAbs : Nat) : Int) from rfl] at this
   exact this
 · have := ExpAt.plus k1 k2
   rw [k3] at this
   rw [show x = ((x.natAbs : Nat) : Int) by omega]
   exact this
theorem Fd (k : Nat) : ∀ c ∈ List.replicate k (48 : UInt8), isD c = true := fun c hc => by
 rw [List.eq_of_mem_replicate hc]; decide
theorem valD_rep (k : Nat) : valD (List.replicate k 48) = 0 := Ea fun c hc => List.eq_of_mem_replicate hc
theorem mant_form {a k : Nat} {c : UInt8} {T : List UInt8} (hc : c ≠ 48) (hl : (c :: T).length <= 18) :
   ndF (List.replicate a 48 ++ ((c :: T) ++ List.replicate k 48)) = (c :: T).length + k /\
   C4 (List.replicate a 48 ++ ((c :: T) ++ List.replicate k 48)) = valD (c :: T) * 10 ^ (min k (19 - (c :: T).length)) /\ truncF (List.replicate a 48 ++ ((c :: T) ++ List.replicate k 48)) = false := by
 have hs : Dx (List.replicate a 48 ++ ((c :: T) ++ List.replicate k 48)) = (c :: T) ++ List.replicate k 48 := by
   induction a with
   | zero =>
     unfold Dx
     rw [List.replicate_zero, List.nil_append, List.cons_append, List.dropWhile_cons_of_neg (by simpa using hc)]
   | succ a ih =>
     unfold Dx at ih ⊢
     rw [List.replicate_succ, List.cons_append, List.dropWhile_cons_of_pos (by rfl)]
     exact ih
 unfold ndF C4 truncF
 rw [hs]
 refine ⟨by rw [List.length_append, List.length_replicate], ?_, ?_⟩
 · rw [List.take_append, List.take_of_length_le (by omega), List.take_replicate, Dk, valD_rep, Nat.add_zero, List.length_replicate, Nat.min_comm]
 · rw [List.drop_append, List.drop_of_length_le (by omega), List.nil_append, List.drop_replicate, List.any_eq_false]
   intro x hx
   rw [List.eq_of_mem_replicate hx]; decide
theorem read_form {r a k m : Nat} {c : UInt8} {T L : List UInt8} {fr : Bool} {x p : Int} (h0 : 0 < r) (hr : r < 9218868437227405312) (hc : c ≠ 48) (hdig : ∀ b ∈ c :: T, isD b = true) (hl : (c :: T).length <= 18)
   (hin : InI r (decA (valD (c :: T)) p) (Av p)) (hv : 0 < valD (c :: T)) (hL : L = List.replicate a 48 ++ ((c :: T) ++ List.replicate k 48))
   (hx : (if fr then (((c :: T).length + k : Nat) : Int) - m else (((c :: T).length + k : Nat) : Int)) + x = (c :: T).length + p) :
   0 < C4 L /\ C4 L < 18446744073709551616 /\ truncF L = false /\ -345 <= expF fr L m x /\ expF fr L m x <= 310 /\ InI r (decA (C4 L) (expF fr L m x)) (Av (expF fr L m x)) := by
 obtain ⟨m1, m2, m3⟩ := mant_form (a := a) (k := k) hc hl
 have hLd : ∀ b ∈ L, isD b = true := fun b hb => by
   rw [hL] at hb
   rcases List.mem_append.1 hb with hb | hb
   · exact Fd _ b hb
   · rcases List.mem_append.1 hb with hb | hb
     · exact hdig b hb
     · exact Fd _ b hb
 have h19 := mantF_lt19 hLd
 rw [<- hL] at m1 m2 m3
 have hpos : 0 < C4 L := by rw [m2]; exact Nat.mul_pos hv (Nat.pow_pos (by decide))
 have he : expF fr L m x + ((min k (19 - (c :: T).length) : Nat) : Int) = p := by
   unfold expF
   rw [if_neg (by omega), m1]
   omega
 have hI : InI r (decA (C4 L) (expF fr L m x)) (Av (expF fr L m x)) := by
   rw [m2, E1, he]; exact hin
 obtain ⟨b1, b2⟩ := p_bounds h0 hr hpos (by omega) hI
 exact ⟨hpos, by omega, m3, b1, b2, hI⟩
structure NumT (s : ByteArray) (neg : Bool) (r : Nat) (d : Bool) (L : List UInt8) (m : Nat) (x : Int) : Prop where
 txt : FTxt s neg d L m x
 pos : 0 < C4 L
 lt : C4 L < 18446744073709551616
 whole : truncF L = false
 low : -345 <= expF d L m x
 high : expF d L m x <= 310
 near : InI r (decA (C4 L) (expF d L m x)) (Av (expF d L m x))
 head : ∃ c l, s.data.toList = (if neg then [45] else []) ++ c :: l /\ isD c = true
 parts : ∃ A F X fr y, s.data.toList = A4 neg ++ (A ++ (Bt fr F ++ X)) /\ A ≠ [] /\ (∀ c ∈ A, isD c = true) /\ (fr = true -> F ≠ []) /\ (∀ c ∈ F, isD c = true) /\ ExpAt X y
theorem De {s : ByteArray} {A F X : List UInt8} {fr neg : Bool} {x p : Int} {r a k : Nat} {c : UInt8} {T : List UInt8} (h0 : 0 < r) (hr : r < 9218868437227405312) (hc : c ≠ 48) (hdig : ∀ b ∈ c :: T, isD b = true) (hl : (c :: T).length <= 18)
   (hin : InI r (decA (valD (c :: T)) p) (Av p)) (hv : 0 < valD (c :: T)) (hs : s.data.toList = A4 neg ++ (A ++ (Bt fr F ++ X))) (hz : s.size <= 1000) (hA : A ≠ []) (hAd : ∀ c ∈ A, isD c = true) (hF : fr = true -> F ≠ []) (hF2 : fr = false -> F = [])
   (hFd : ∀ c ∈ F, isD c = true) (hX : ExpAt X x) (hL : A ++ F = List.replicate a 48 ++ ((c :: T) ++ List.replicate k 48))
   (hx : (if fr then (((c :: T).length + k : Nat) : Int) - ((if fr then F.length else A.length : Nat) : Int) else (((c :: T).length + k : Nat) : Int)) + x = (c :: T).length + p) :
   NumT s neg r fr (A ++ F) (if fr then F.length else A.length) x := by
 obtain ⟨h1, h2⟩ := txt_form hs hz hA hAd hF2 hFd hX
 obtain ⟨m1, m2, m3, m4, m5, m6⟩ := read_form (fr := fr) (m := if fr then F.length else A.length) (x := x) h0 hr hc hdig hl hin hv hL hx
 exact ⟨h1, m1, m2, m3, m4, m5, m6, h2, A, F, X, fr, x, hs, hA, hAd, hF, hFd, hX⟩
theorem text_reads {s : ByteArray} {neg : Bool} {r : Nat} (h0 : 0 < r) (hr : r < 9218868437227405312) (hs : s.data.toList = A4 neg ++ D3 r) : s.size <= 25 /\ ∃ d L m x, NumT s neg r d L m x := by
 obtain ⟨c, T, hD, hc, hl, hin, hv⟩ := dig_spec h0 hr
 have hdig := digL_isD r
 obtain ⟨b1, b2⟩ := Ef hr
 have hsg : (A4 neg).length <= 1 := by unfold A4; split <;> simp
 have hsz : s.size = (A4 neg).length + (D3 r).length := by rw [Cy, hs, List.length_append]
 unfold D3 at hs hsz
 have hne : digL r ≠ [] := by rw [hD]; simp
 have hex : expN r = A2 r - 1 := by unfold expN; rw [if_neg hne]
 rw [if_neg (by omega), hex] at hs hsz
 obtain ⟨dp, hdp⟩ : ∃ dp, A2 r = dp := ⟨_, rfl⟩
 rw [hdp] at hs hsz hin b1 b2
 rw [hD] at hs hsz hin hdig hl hv
 clear hD hne hex hdp
 have hll : (c :: T).length = T.length + 1 := rfl
 by_cases he : dp - 1 < -4 \/ 21 <= dp - 1
 · rw [if_pos he] at hs hsz
   have hE : effE false (c :: T) dp = [c] ++ (Bt (decide (1 < (c :: T).length)) T ++ (101 :: expL (dp - 1))) := by
     unfold effE Bt
     rw [if_neg (List.cons_ne_nil c T)]
     by_cases h1 : 1 < (c :: T).length
     · rw [if_pos h1, if_pos (decide_eq_true h1)]
       simp [A4]
     · rw [if_neg h1, if_neg (by simpa using h1)]
       simp [A4]
   rw [hE] at hs hsz
   have hel := expL_len (dp - 1)
   have hz : s.size <= 25 := by
     rw [hsz]
     unfold Bt
     split <;> simp only [List.length_append, List.length_cons, List.length_nil] <;> omega
   refine ⟨hz, _, _, _, _, De (fr := decide (1 < (c :: T).length)) (a := 0) (k := 0) (A := [c]) (F := T) (x := dp - 1) h0 hr hc hdig hl hin hv hs (by omega) (by simp) ?_ ?_ ?_ ?_ (expL_is _ (by omega)) (by simp) ?_⟩
   · intro b hb
     rw [List.mem_singleton] at hb
     subst hb; exact hdig _ (List.mem_cons_self ..)
   · intro h1 h2
     have := of_decide_eq_true h1
     rw [h2] at this; simp at this
   · intro h1
     have := of_decide_eq_false h1
     cases T with
     | nil => rfl
     | cons a l => simp at this
   · exact fun b hb => hdig b (List.mem_cons_of_mem _ hb)
   · by_cases h1 : 1 < (c :: T).length
     · rw [decide_eq_true h1, if_pos rfl, if_pos rfl]; omega
     · rw [decide_eq_false h1, if_neg (by decide)]; omega
 · rw [if_neg he] at hs hsz
   rcases Int.lt_or_le 0 dp with hp | hp
   · rcases Int.lt_or_le dp (c :: T).length with hq | hq
     · have hF : effF false (c :: T) dp = (c :: T).take dp.toNat ++ (Bt true ((c :: T).drop dp.toNat) ++ []) := by
         unfold effF Bt
         rw [if_pos hp, if_pos hq, if_pos rfl, show dp.toNat - (c :: T).length = 0 by omega, show (-dp).toNat = 0 by omega]
         simp [A4]
       rw [hF] at hs hsz
       have hz : s.size <= 25 := by
         rw [hsz]
         unfold Bt
         rw [if_pos rfl, List.length_append, List.length_append, List.length_cons, List.length_take, List.length_drop, List.length_nil]; omega
       refine ⟨hz, _, _, _, _, De (fr := true) (a := 0) (k := 0) (x := 0) h0 hr hc hdig hl hin hv hs (by omega) ?_ (fun b hb => hdig b (List.mem_of_mem_take hb)) ?_ (fun h => by cases h) (fun b hb => hdig b (List.mem_of_mem_drop hb)) .none ?_ ?_⟩
       · intro h
         have := congrArg List.length h
         rw [List.length_take, List.length_nil] at this; omega
       · intro _ h
         have := congrArg List.length h
         rw [List.length_drop, List.length_nil] at this; omega
       · rw [List.take_append_drop]; simp
       · rw [if_pos rfl, if_pos rfl, List.length_drop]; omega
     · have hF : effF false (c :: T) dp = ((c :: T) ++ List.replicate (dp.toNat - (c :: T).length) 48) ++ (Bt false [] ++ []) := by
         unfold effF Bt
         rw [if_pos hp, if_neg (by omega), if_neg (by decide), List.take_of_length_le (by omega)]
         simp [A4]
       rw [hF] at hs hsz
       have hz : s.size <= 25 := by
         rw [hsz]
         unfold Bt
         rw [if_neg (by decide), List.length_append, List.length_append, List.length_append, List.length_replicate, List.length_nil]; omega
       refine ⟨hz, _, _, _, _, De (fr := false) (a := 0) (k := dp.toNat - (c :: T).length) (x := 0) h0 hr hc hdig hl hin hv hs (by omega) (by simp) ?_ (fun h => by cases h) (fun _ => rfl) (fun b hb => by cases hb) .none ?_ ?_⟩
       · intro b hb
         rcases List.mem_append.1 hb with hb | hb
         · exact hdig b hb
         · exact Fd _ b hb
       · simp
       · rw [if_neg (by decide)]; omega
   · have hF : effF false (c :: T) dp = [48] ++ (Bt true (List.replicate (-dp).toNat 48 ++ (c :: T)) ++ []) := by
       unfold effF Bt
       rw [if_neg (by omega), if_pos (by omega), if_pos rfl, show dp.toNat = 0 by omega]
       simp [A4]
     rw [hF] at hs hsz
     have hz : s.size <= 25 := by
       rw [hsz]
       unfold Bt
       rw [if_pos rfl]
       simp only [List.length_append, List.length_cons, List.length_replicate, List.length_nil]
       simp only [List.length_cons] at hll hl
       omega
     refine ⟨hz, _, _, _, _, De (fr := true) (a := (-dp).toNat + 1) (k := 0) (x := 0) h0 hr hc hdig hl hin hv hs (by omega) (by simp) ?_ (fun _ => by simp) (fun h => by cases h) ?_ .none ?_ ?_⟩
     · intro b hb
       rw [List.mem_singleton] at hb
       subst hb; decide
     · intro b hb
       rcases List.mem_append.1 hb with hb | hb
       · exact Fd _ b hb
       · exact hdig b hb
     · rw [List.replicate_succ]; simp
     · rw [if_pos rfl, if_pos rfl, List.length_append, List.length_replicate]; omega
theorem bare_zero : D3 0 = [48] := by decide +kernel
theorem txt_eq {s : ByteArray} {l : List UInt8} (h : s.data.toList = l) : s = ⟨l.toArray⟩ := ByteArray.ext (Array.toList_inj.1 h)
theorem nan_bound {n : Nat} (h : nanF n = false) : n % 9223372036854775808 <= 9218868437227405312 := by
 unfold nanF at h
 have := of_decide_eq_false h
 omega
theorem F3 {n : Nat} (h : n < 18446744073709551616) : (Bh n).length <= 25 := by
 cases hnan : nanF n with
 | true => rw [realL_nan hnan]; decide
 | false =>
   rw [realL_bare hnan]
   have hb := nan_bound hnan
   have hl : (A4 (decide (9223372036854775808 <= n))).length <= 1 := by unfold A4; split <;> simp
   rcases Nat.eq_or_lt_of_le hb with h1 | h1
   · rw [h1, List.length_append, show (D3 9218868437227405312).length = 3 from by unfold D3; rw [if_pos rfl]; rfl]; omega
   · rcases Nat.eq_zero_or_pos (n % 9223372036854775808) with h0 | h0
     · rw [h0, bare_zero, List.length_append]
       simp; omega
     · obtain ⟨hz, _⟩ := text_reads (s := ⟨(A4 (decide (9223372036854775808 <= n)) ++ D3 (n % 9223372036854775808)).toArray⟩) h0 h1 rfl
       exact hz
end Go.Proofs.YtagkgfniihiinaaGreatDoor
