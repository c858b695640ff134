/- The text of any number is as a number's text is: plain. -/
import Derived.Test.YtgpfjhligiapdaaGreatDoorTxtQ
import Derived.Test.YtgpfjhligiapdaaGreatDoorJ13
import Derived.Test.YtgpfjhligiapdaaGreatDoorRWhoL
import Derived.Test.YtgpfjhligiapdaaGreatDoorRNamL

namespace Go.Proofs.YtgpfjhligiapdaaGreatDoor

theorem afterL_nil (l : List UInt8) : afterL [] l = l := by cases l <;> rfl
theorem nD_app : ∀ {A B : List UInt8}, (∀ c ∈ A, isD c = true) → (∀ c l, B = c :: l → isD c = false) → nD (A ++ B) = A.length
  | [], [], _, _ => rfl
  | [], c :: l, _, h => by
    unfold nD
    rw [List.nil_append, List.takeWhile_cons_of_neg (by rw [h c l rfl]; decide)]
  | a :: A, B, h, hB => by
    have ih := nD_app (A := A) (B := B) (fun x hx => h x (List.mem_cons_of_mem _ hx)) hB
    unfold nD at ih ⊢
    rw [List.cons_append, List.takeWhile_cons_of_pos (h a (List.mem_cons_self ..)), List.length_cons, ih, List.length_cons]
theorem part_exp {X : List UInt8} {x : Int} (h : ExpAt X x) : partL 101 [43, 45] X = ([], true) := by
  have key : ∀ E : List UInt8, E ≠ [] → (∀ c ∈ E, isD c = true) → (E.drop (nD E), decide (0 < nD E)) = (([] : List UInt8), true) := fun E hE hd => by
    rw [nD_all hd, List.drop_length, decide_eq_true (List.length_pos_iff.2 hE)]
  cases h with
  | none => rfl
  | @bare E hE hd =>
    rw [partL_pos]
    have : afterL [43, 45] E = E := by
      cases E with
      | nil => rfl
      | cons c l =>
        have hc := hd c (List.mem_cons_self ..)
        refine afterL_neg fun hm => ?_
        rcases List.mem_cons.1 hm with rfl | hm
        · exact absurd hc (by decide)
        · rw [List.mem_singleton] at hm
          subst hm; exact absurd hc (by decide)
    rw [this]; exact key E hE hd
  | @plus E hE hd => rw [partL_pos, afterL_pos (by decide)]; exact key E hE hd
  | @minus E hE hd => rw [partL_pos, afterL_pos (by decide)]; exact key E hE hd
theorem right_form {A F X : List UInt8} {fr : Bool} {x : Int} (neg : Bool) (hA : A ≠ []) (hAd : ∀ c ∈ A, isD c = true) (hF : fr = true → F ≠ []) (hFd : ∀ c ∈ F, isD c = true) (hX : ExpAt X x) :
    rightL (signL neg ++ (A ++ (fracL fr F ++ X))) = true := by
  have hXd : ∀ c l, X = c :: l → isD c = false := fun c l e => by rw [exp_head hX c l e]; decide
  have ha : afterL [45] (signL neg ++ (A ++ (fracL fr F ++ X))) = A ++ (fracL fr F ++ X) := by
    cases A with
    | nil => exact absurd rfl hA
    | cons c l =>
      have hc := hAd c (List.mem_cons_self ..)
      cases neg
      · refine afterL_neg fun hm => ?_
        rw [List.mem_singleton] at hm
        subst hm; exact absurd hc (by decide)
      · exact afterL_pos (by decide)
  have hn : nD (A ++ (fracL fr F ++ X)) = A.length := by
    refine nD_app hAd ?_
    intro c l e
    unfold fracL at e
    cases fr
    · exact hXd c l e
    · cases e; decide
  have hp : partL 46 [] (fracL fr F ++ X) = (X, true) := by
    cases fr
    · show partL 46 [] X = (X, true)
      cases hx : X with
      | nil => rfl
      | cons c l =>
        have := exp_head hX c l hx
        subst this
        exact partL_neg (by decide)
    · show partL 46 [] (46 :: (F ++ X)) = (X, true)
      rw [partL_pos, afterL_nil, nD_app hFd hXd, List.drop_left, decide_eq_true (List.length_pos_iff.2 (hF rfl))]
  unfold rightL
  dsimp only
  rw [ha, hn, List.drop_left, hp]
  dsimp only
  rw [part_exp hX, decide_eq_true (List.length_pos_iff.2 hA)]
  rfl
theorem NumT.right {s : ByteArray} {neg d : Bool} {r m : Nat} {L : List UInt8} {x : Int} (h : NumT s neg r d L m x) : rightL s.data.toList = true := by
  obtain ⟨A, F, X, fr, y, hs, hA, hAd, hF, hFd, hX⟩ := h.parts
  rw [hs]; exact right_form neg hA hAd hF hFd hX
end Go.Proofs.YtgpfjhligiapdaaGreatDoor

/- real.Parse at the text of any number: that number. -/
namespace Go.Proofs.YtgpfjhligiapdaaGreatDoor
open Go.RowKit

theorem parse_reads {s : ByteArray} {neg d : Bool} {r m : Nat} {L : List UInt8} {x : Int} (h : NumT s neg r d L m x) (hr : r < 9218868437227405312) (hz : s.size ≤ 64) {w : World} (hP : Par w) (hF : Flo w) :
    Calls Tryz.prog 10 #[.string s] w fun e w' => e = .returned (.tuple #[.float .f64 (sgB neg + r), .int .i64 0]) ∧ Below w.heap.size w w' := by
  obtain ⟨c, l, h1, hc⟩ := h.head
  refine parse_numB h1 hc hz h.right fun w' hb => ?_
  refine sparse_okB ?_
  refine (atof_mid h.txt h.pos h.lt h.whole rfl h.low h.high (hP.below hb) (hF.below hb).pows).mono ?_
  rintro e w'' ⟨R, hI, he, hb2⟩
  have hR : R = r := hI.uniq (Nat.pow_pos (by decide)) h.near
  subst hR
  have hne : ¬ R = 9218868437227405312 := by omega
  rw [Nat.min_eq_left (Nat.le_of_lt hr)] at he
  unfold rngErr at he
  rw [if_neg hne] at he
  exact ⟨he, hb2⟩
/-- THE TEXT OF ANY NUMBER IS READ AS THAT NUMBER. -/
theorem parse_text {n : Nat} (hn : n < 18446744073709551616) {s : ByteArray} (hs : s.data.toList = realL n) {w : World} (hP : Par w) (hF : Flo w) :
    Calls Tryz.prog 10 #[.string s] w fun e w' => e = .returned (.tuple #[.float .f64 (canon n), .int .i64 0]) ∧ Below w.heap.size w w' := by
  cases hnan : nanF n with
  | true =>
    rw [realL_nan hnan] at hs
    rw [txt_eq hs, (canon_nan n).2 hnan]
    exact (parse_nan w).mono fun e w' ⟨h1, h2⟩ => ⟨h1, by rw [h2]; exact Below.refl _ _⟩
  | false =>
    have hc : canon n = n := by unfold canon; rw [hnan]; rfl
    rw [realL_bare hnan] at hs
    have hsp : n = sgB (decide (9223372036854775808 ≤ n)) + n % 9223372036854775808 := word_split n hn
    obtain ⟨sg, hsg⟩ : ∃ sg, sg = decide (9223372036854775808 ≤ n) := ⟨_, rfl⟩
    obtain ⟨r, hr⟩ : ∃ r, r = n % 9223372036854775808 := ⟨_, rfl⟩
    have hr9 : r ≤ 9218868437227405312 := by
      unfold nanF at hnan
      have := of_decide_eq_false hnan
      omega
    rw [← hsg, ← hr] at hsp hs
    rw [hc, hsp]
    clear hc hnan hsg hsp hr
    rcases Nat.eq_or_lt_of_le hr9 with h | h
    · subst h
      have hb : bareL 9218868437227405312 = [105, 110, 102] := by unfold bareL; rw [if_pos rfl]
      rw [hb] at hs
      rw [txt_eq hs]
      cases sg
      · exact (parse_inf w).mono fun e w' ⟨h1, h2⟩ => ⟨h1, by rw [h2]; exact Below.refl _ _⟩
      · exact (parse_minf w).mono fun e w' ⟨h1, h2⟩ => ⟨h1, by rw [h2]; exact Below.refl _ _⟩
    · rcases Nat.eq_zero_or_pos r with h0 | h0
      · subst h0
        rw [bare_zero] at hs
        cases sg
        · exact parse_nought hP s hs
        · rw [txt_eq hs]; exact parse_mzero hP
      · obtain ⟨hz, d, L, m, x, hR⟩ := text_reads h0 h hs
        exact parse_reads hR h (by omega) hP hF
end Go.Proofs.YtgpfjhligiapdaaGreatDoor

/- RealNear: its walk. -/
namespace Go.Proofs.YtgpfjhligiapdaaGreatDoor
open Go.RowKit

theorem xor_one {n : Nat} (h : n < 18446744073709551616) : ∃ m : Nat, m < 18446744073709551616 ∧ bits .xor .u64 (n : Int) 1 = (m : Int) := by
  refine ⟨((BitVec.ofInt 64 (n : Int)) ^^^ (BitVec.ofInt 64 1)).toNat, BitVec.isLt _, ?_⟩
  have h1 := ((BitVec.ofInt 64 (n : Int)) ^^^ (BitVec.ofInt 64 1)).isLt
  show IntKind.u64.wrap (((BitVec.ofInt 64 (n : Int)) ^^^ (BitVec.ofInt 64 1)).toNat : Int) = _
  generalize ((BitVec.ofInt 64 (n : Int)) ^^^ (BitVec.ofInt 64 1)).toNat = q at h1 ⊢
  simp [IntKind.wrap, IntKind.bits, IntKind.signed]
  omega
set_option maxRecDepth 100000 in
set_option maxHeartbeats 3200000 in
theorem nearL_any {n : Nat} (hn : n < 18446744073709551616) {w : World} (hF : Flo w) (hP : Par w) :
    Calls Tryz.prog 4 #[.int .u64 (n : Int)] w fun e w' => e = .returned (.bool true) ∧ Below w.heap.size w w' := by
  obtain ⟨m, hm, hx⟩ := xor_one hn
  have hal := alive02_any hF hP
  have fa := mfrom_run n
  have fb := mfrom_run m
  have hcn := canon_lt hn
  have t1 := fun w' (h : Below w.heap.size w w') => realText_any (n := n) hn (hF.below h)
  have t2 := fun w' (h : Below w.heap.size w w') => realText_any (n := m) hm (hF.below h)
  have t3 := fun w' (h : Below w.heap.size w w') => realText_any (n := canon n) hcn (hF.below h)
  rw [text_canon] at t3
  have sm := same_any hn hm
  have sc := same_any hcn hn
  have hcc : canon (canon n) = canon n := by
    cases h : nanF n with
    | true => rw [(canon_nan n).2 h]; decide
    | false => rw [show canon n = n by unfold canon; rw [h]; rfl]; unfold canon; rw [h]; rfl
  rw [hcc, decide_eq_true rfl] at sc
  have hp := fun w' (h : Below w.heap.size w w') (s : ByteArray) (hs : s.data.toList = realL n) => parse_text hn hs (hP.below h) (hF.below h)
  have hlen := text_len hn
  have hinj := text_inj hn hm
  have hback : canon n = canon m → realL n = realL m := fun h => by rw [← text_canon n, h, text_canon]
  obtain ⟨S, hS⟩ : ∃ S, S = realL n := ⟨_, rfl⟩
  obtain ⟨T, hT⟩ : ∃ T, T = realL m := ⟨_, rfl⟩
  obtain ⟨c, hc⟩ : ∃ c, c = canon n := ⟨_, rfl⟩
  obtain ⟨D, hD⟩ : ∃ D, D = decide (canon n = canon m) := ⟨_, rfl⟩
  have hDS : D = true → S = T := fun h => by rw [h] at hD; rw [hS, hT]; exact hback (of_decide_eq_true hD.symm)
  have hDn : D = false → S ≠ T := fun h e => by rw [h] at hD; exact absurd (hinj (by rw [← hS, ← hT]; exact e)) (of_decide_eq_false hD.symm)
  rw [← hD] at sm
  rw [← hS] at t1 t3 hlen hp
  rw [← hT] at t2
  rw [← hc] at t3 sc hp
  replace hal := Lib.hid hal
  replace t1 := Lib.hid t1
  replace t2 := Lib.hid t2
  replace t3 := Lib.hid t3
  replace sm := Lib.hid sm
  replace sc := Lib.hid sc
  replace hp := Lib.hid hp
  replace hDS := Lib.hid hDS
  replace hDn := Lib.hid hDn
  clear hF hP hcc hinj hback hS hT hc hD hcn
  go_enter Tryz.func4, Tryz.ntmps4
  go_wp2_with fail
  refine hal.out.mono ?_
  rintro e w1 ⟨rfl, hb1⟩
  go_wp2_with fail
  refine (t1.out w1 hb1).mono ?_
  rintro e w2 ⟨s, rfl, hs, hb2⟩
  have hb02 := hb1.trans (hb2.mono hb1.size)
  have hsz : ¬ (25 : Int) < (s.size : Int) := by rw [size_list, hs]; omega
  replace hlen := Lib.hid hlen
  replace hs := Lib.hid hs
  clear hb1 hb2
  go_wp2_with fail
  refine (t2.out w2 hb02).mono ?_
  rintro e w3 ⟨t, rfl, ht, hb3⟩
  have hb03 := hb02.trans (hb3.mono hb02.size)
  clear hb02 hb3
  replace ht := Lib.hid ht
  have p1 := hp.out w3 hb03 s hs.out
  replace p1 := Lib.hid p1
  cases D with
  | true =>
    have hst : t = s := ByteArray.ext (Array.toList_inj.1 (ht.out.trans ((hDS.out rfl).symm.trans hs.out.symm)))
    clear ht
    subst hst
    go_wp2_with fail
    refine (sm.out _).mono ?_
    rintro e w' ⟨rfl, hww⟩
    obtain rfl := hww.symm
    clear hww
    go_wp2_with fail
    refine p1.out.mono ?_
    rintro e w4 ⟨rfl, hb4⟩
    have hb04 := hb03.trans (hb4.mono hb03.size)
    clear hb4
    go_wp2_with fail
    refine (sc.out _).mono ?_
    rintro e w' ⟨rfl, hww⟩
    obtain rfl := hww.symm
    clear hww
    go_wp2_with fail
    refine (t3.out w4 hb04).mono ?_
    rintro e w5 ⟨u, rfl, hu, hb5⟩
    have hut : u = t := ByteArray.ext (Array.toList_inj.1 (hu.trans hs.out.symm))
    subst hut
    have hb05 := hb04.trans (hb5.mono hb04.size)
    replace hb05 := Lib.hid hb05
    clear hb5 hb04 hb03 hu
    go_wp2
    go_ret
    exact ⟨rfl, hb05.out⟩
  | false =>
    have hne : ¬ s.toList = t.toList := fun e => by
      rw [ByteArray.toList_eq, ByteArray.toList_eq, hs.out, ht.out] at e
      exact hDn.out rfl e
    have hneb : (s.toList == t.toList) = false := beq_eq_false_iff_ne.2 hne
    clear ht hne
    go_wp2_with fail
    refine (sm.out _).mono ?_
    rintro e w' ⟨rfl, hww⟩
    obtain rfl := hww.symm
    clear hww
    go_wp2_with fail
    refine p1.out.mono ?_
    rintro e w4 ⟨rfl, hb4⟩
    have hb04 := hb03.trans (hb4.mono hb03.size)
    clear hb4
    go_wp2_with fail
    refine (sc.out _).mono ?_
    rintro e w' ⟨rfl, hww⟩
    obtain rfl := hww.symm
    clear hww
    go_wp2_with fail
    refine (t3.out w4 hb04).mono ?_
    rintro e w5 ⟨u, rfl, hu, hb5⟩
    have hut : u = s := ByteArray.ext (Array.toList_inj.1 (hu.trans hs.out.symm))
    subst hut
    have hb05 := hb04.trans (hb5.mono hb04.size)
    replace hb05 := Lib.hid hb05
    clear hb5 hb04 hb03 hu
    go_wp2
    go_ret
    exact ⟨rfl, hb05.out⟩
end Go.Proofs.YtgpfjhligiapdaaGreatDoor
