/- Values as bytes in the newer protocol: what is written, and that it tells values apart (plain). -/
import Derived.Test.YtagkgfniihiinaaGreatDoorTxtQ
import Derived.Test.YtagkgfniihiinaaGreatDoorOwn03
import Derived.Test.YtagkgfniihiinaaGreatDoorJ7
import Derived.Lib.ItoaNum
import Derived.Lib.ItoaLen
namespace Go.Proofs.YtagkgfniihiinaaGreatDoor

/-- Of each kind its first byte. -/
def markK (k : Int) : UInt8 := ([0, 43, 45, 58, 36, 42, 95, 44, 35, 40, 33, 61, 37, 126, 62] : List UInt8).getD k.toNat 0
def lineL (m : UInt8) (t : List UInt8) : List UInt8 := m :: (t ++ [13, 10])
def numL (m : UInt8) (n : Int) : List UInt8 := lineL m (Lib.itoa n)
def longL (m : UInt8) (t : List UInt8) : List UInt8 := numL m t.length ++ (t ++ [13, 10])
def manyK (k : Int) (n : Nat) : Nat := if k = 12 then n / 2 else n
mutual
/-- What is written of a value. -/
def V.wire : V → List UInt8
  | .mk k t i r f l =>
    if k = 1 ∨ k = 2 ∨ k = 9 then lineL (markK k) t.data.toList
    else if k = 3 then numL 58 i
    else if k = 7 then lineL 44 (realL r)
    else if k = 8 then lineL 35 (if f then [116] else [102])
    else if k = 6 then lineL 95 []
    else if k = 4 ∨ k = 10 ∨ k = 11 then longL (markK k) t.data.toList
    else if k = 5 ∨ k = 12 ∨ k = 13 ∨ k = 14 then numL (markK k) (manyK k l.length) ++ V.wireL l
    else []
def V.wireL : List V → List UInt8
  | [] => []
  | x :: l => x.wire ++ V.wireL l
end
theorem V.wire_eq (v : V) : v.wire = if v.kind = 1 ∨ v.kind = 2 ∨ v.kind = 9 then lineL (markK v.kind) v.text.data.toList
    else if v.kind = 3 then numL 58 v.int
    else if v.kind = 7 then lineL 44 (realL v.real)
    else if v.kind = 8 then lineL 35 (if v.flag then [116] else [102])
    else if v.kind = 6 then lineL 95 []
    else if v.kind = 4 ∨ v.kind = 10 ∨ v.kind = 11 then longL (markK v.kind) v.text.data.toList
    else if v.kind = 5 ∨ v.kind = 12 ∨ v.kind = 13 ∨ v.kind = 14 then numL (markK v.kind) (manyK v.kind v.list.length) ++ V.wireL v.list
    else [] := by cases v; rw [V.wire]; rfl
theorem V.wireL_append (a b : List V) : V.wireL (a ++ b) = V.wireL a ++ V.wireL b := by
  induction a with
  | nil => rfl
  | cons x a ih => rw [List.cons_append, V.wireL, ih, V.wireL, List.append_assoc]
theorem V.wireL_snoc (l : List V) (x : V) : V.wireL (l ++ [x]) = V.wireL l ++ x.wire := by
  rw [V.wireL_append, V.wireL, V.wireL, List.append_nil]

/-! ### lines -/
theorem cr_split : ∀ {s s' u v : List UInt8}, (13 : UInt8) ∉ s → (13 : UInt8) ∉ s' → s ++ 13 :: u = s' ++ 13 :: v → s = s' ∧ u = v
  | [], [], _, _, _, _, h => ⟨rfl, (List.cons.inj h).2⟩
  | [], _ :: _, _, _, _, h', h => (h' (by rw [(List.cons.inj h).1]; exact List.mem_cons_self ..)).elim
  | _ :: _, [], _, _, h', _, h => (h' (by rw [← (List.cons.inj h).1]; exact List.mem_cons_self ..)).elim
  | c :: s, c' :: s', _, _, h1, h2, h => by
    obtain ⟨e1, e2⟩ := List.cons.inj h
    obtain ⟨e3, e4⟩ := cr_split (fun hm => h1 (List.mem_cons_of_mem _ hm)) (fun hm => h2 (List.mem_cons_of_mem _ hm)) e2
    exact ⟨by rw [e1, e3], e4⟩
theorem line_inj {m m' : UInt8} {s s' x y : List UInt8} (h1 : (13 : UInt8) ∉ s) (h2 : (13 : UInt8) ∉ s') (h : lineL m s ++ x = lineL m' s' ++ y) : m = m' ∧ s = s' ∧ x = y := by
  unfold lineL at h
  rw [List.cons_append, List.cons_append] at h
  obtain ⟨e1, e2⟩ := List.cons.inj h
  rw [List.append_assoc, List.append_assoc] at e2
  obtain ⟨e3, e4⟩ := cr_split h1 h2 e2
  exact ⟨e1, e3, (List.cons.inj e4).2⟩
theorem dig_ne {c : UInt8} (h : isD c = true) : c ≠ 13 := fun e => by subst e; exact absurd h (by decide)
theorem dec_free (u : Nat) : (13 : UInt8) ∉ Lib.decDigits u := fun h => dig_ne (dec_isD u _ h) rfl
theorem itoa_free (n : Int) : (13 : UInt8) ∉ Lib.itoa n := by
  unfold Lib.itoa
  split
  · intro h
    rcases List.mem_cons.1 h with h | h
    · exact absurd h (by decide)
    · exact dec_free _ h
  · exact dec_free _
theorem dec_inj {u v : Nat} (h : Lib.decDigits u = Lib.decDigits v) : u = v := by
  have := congrArg valD h
  rwa [dec_val, dec_val] at this
theorem itoa_inj {n m : Int} (h : Lib.itoa n = Lib.itoa m) : n = m := by
  have key : ∀ {u v : Nat}, 45 :: Lib.decDigits u = Lib.decDigits v → False := fun {u v} h => by
    have := dec_isD v 45 (by rw [← h]; exact List.mem_cons_self ..)
    exact absurd this (by decide)
  unfold Lib.itoa at h
  split at h <;> split at h
  · have := dec_inj (List.cons.inj h).2; omega
  · exact (key h).elim
  · exact (key h.symm).elim
  · have := dec_inj h; omega
theorem num_inj {m m' : UInt8} {a b : Int} {x y : List UInt8} (h : numL m a ++ x = numL m' b ++ y) : m = m' ∧ a = b ∧ x = y := by
  obtain ⟨e1, e2, e3⟩ := line_inj (itoa_free a) (itoa_free b) h
  exact ⟨e1, itoa_inj e2, e3⟩
theorem long_inj {m m' : UInt8} {s t x y : List UInt8} (h : longL m s ++ x = longL m' t ++ y) : m = m' ∧ s = t ∧ x = y := by
  unfold longL at h
  simp only [List.append_assoc] at h
  obtain ⟨e1, e2, e3⟩ := num_inj h
  have hl : s.length = t.length := by omega
  obtain ⟨e4, e5⟩ := List.append_inj e3 hl
  exact ⟨e1, e4, (List.append_cancel_left e5)⟩
theorem real_free {r : Nat} (h : r < 18446744073709551616) : (13 : UInt8) ∉ realL r := by
  cases hnan : nanF r with
  | true => rw [realL_nan hnan]; decide
  | false =>
    rw [realL_bare hnan]
    have hb := nan_bound hnan
    intro hm
    rcases List.mem_append.1 hm with hm | hm
    · unfold signL at hm
      split at hm
      · rw [List.mem_singleton] at hm; exact absurd hm (by decide)
      · cases hm
    · rcases Nat.eq_or_lt_of_le hb with h1 | h1
      · rw [h1] at hm
        unfold bareL at hm
        rw [if_pos rfl] at hm
        exact absurd hm (by decide)
      · rcases Nat.eq_zero_or_pos (r % 9223372036854775808) with h0 | h0
        · rw [h0, bare_zero] at hm; exact absurd hm (by decide)
        · obtain ⟨_, d, L, m, x, hR⟩ := text_reads (s := ⟨(bareL (r % 9223372036854775808)).toArray⟩) (neg := false) h0 h1 rfl
          obtain ⟨⟨c, b, rest, e1, _, _, _, e5⟩, _, _⟩ := hR.txt
          have e6 : bareL (r % 9223372036854775808) = c :: b := e1
          rw [e6] at hm
          rcases e5 13 hm with h | h | h | h | h
          · exact absurd h (by decide)
          all_goals exact absurd h (by decide)
theorem crlf_free {t : ByteArray} (h : crlfB t = false) : (13 : UInt8) ∉ t.data.toList := by
  intro hm
  obtain ⟨i, hi, e⟩ := List.getElem_of_mem hm
  unfold crlfB Lib.containsAny at h
  rw [decide_eq_false_iff_not] at h
  refine h ?_
  have key : ∀ (l : List UInt8), (13 : UInt8) ∈ l → 0 ≤ Lib.indexAny l [13, 10] := by
    intro l
    induction l with
    | nil => intro h; cases h
    | cons b l ih =>
      intro h
      unfold Lib.indexAny
      split
      · exact Int.le_refl _
      · rename_i hb
        rcases List.mem_cons.1 h with h | h
        · subst h; exact absurd (by decide) hb
        · have := ih h
          split
          · rename_i h2
            have h3 := beq_iff_eq.1 h2
            omega
          · omega
  exact key _ hm
theorem big_free {t : ByteArray} (h : bigB t = true) : (13 : UInt8) ∉ t.data.toList := by
  rw [bigB_eq, Bool.and_eq_true, List.all_eq_true] at h
  intro hm
  have hd := h.2
  unfold bigAt at hd
  have n13 : digB 13 = false := by decide
  split at hd
  · rename_i h45
    cases hl : t.data.toList with
    | nil => rw [hl] at hm; cases hm
    | cons c l =>
      rw [hl] at hm hd h45
      rcases List.mem_cons.1 hm with h1 | h1
      · rw [List.head?_cons] at h45
        have := Option.some.inj h45
        rw [← h1] at this; exact absurd this (by decide)
      · have := hd 13 (by simpa using h1)
        rw [n13] at this; cases this
  · have := hd 13 (by simpa using hm)
    rw [n13] at this; cases this

/-! ### what a value that can be has -/
structure OkOut (v : V) : Prop where
  kind : 1 ≤ v.kind ∧ v.kind ≤ 14
  text : ¬ (v.kind = 1 ∨ v.kind = 2 ∨ v.kind = 4 ∨ v.kind = 9 ∨ v.kind = 10 ∨ v.kind = 11) → v.text = ⟨#[]⟩
  int : v.kind ≠ 3 → v.int = 0
  real : v.kind ≠ 7 → bitsN v.real = 0
  flag : v.kind ≠ 8 → v.flag = false
  list : ¬ (v.kind = 5 ∨ v.kind = 12 ∨ v.kind = 13 ∨ v.kind = 14) → v.list = []
  line : v.kind = 1 ∨ v.kind = 2 → crlfB v.text = false
  big : v.kind = 9 → bigB v.text = true
  even : v.kind = 12 → v.list.length % 2 = 0
  size : v.text.size ≤ 4096
theorem empty_text {t : ByteArray} (h : emptyS t = true) : t = ⟨#[]⟩ := by
  unfold emptyS at h
  rw [List.isEmpty_iff, ByteArray.toList_eq] at h
  exact ByteArray.ext (Array.toList_inj.1 h)
theorem ok_out {v : V} (h : okV v = true) : OkOut v := by
  unfold okV at h
  rw [Bool.and_eq_true, Bool.and_eq_true, Bool.and_eq_true, decide_eq_true_eq] at h
  obtain ⟨⟨⟨h1, h2⟩, h3⟩, h4⟩ := h
  unfold knownK at h1
  unfold nothingV nothingB at h2
  simp only [Bool.and_eq_true, Bool.or_eq_true, decide_eq_true_eq] at h1 h2
  obtain ⟨⟨⟨⟨a1, a2⟩, a3⟩, a4⟩, a5⟩ := h2
  unfold formB at h3
  refine ⟨h1, fun hn => ?_, fun hn => ?_, fun hn => ?_, fun hn => ?_, fun hn => ?_, fun hk => ?_, fun hk => ?_, fun hk => ?_, h4⟩
  · rcases a1 with a | a
    · unfold textK at a; exact absurd (of_decide_eq_true a) hn
    · exact empty_text a
  · rcases a2 with a | a
    · unfold numK at a; exact absurd (of_decide_eq_true a) hn
    · exact a
  · rcases a3 with a | a
    · unfold realK at a; exact absurd (of_decide_eq_true a) hn
    · exact a
  · rcases a4 with a | a
    · unfold flagK at a; exact absurd (of_decide_eq_true a) hn
    · simpa using a
  · rcases a5 with a | a
    · unfold listK at a; exact absurd (of_decide_eq_true a) hn
    · exact List.length_eq_zero_iff.1 a
  · rw [if_pos hk] at h3; simpa using h3
  · rw [if_neg (by omega), if_pos hk] at h3; exact h3
  · rw [if_neg (by omega), if_neg (by omega), if_neg (by omega), if_pos hk] at h3; exact of_decide_eq_true h3
theorem mark_inj : ∀ a b : Fin 15, 1 ≤ a.val → 1 ≤ b.val → markK a.val = markK b.val → a = b := by decide
theorem mark_kind {a b : Int} (ha : 1 ≤ a ∧ a ≤ 14) (hb : 1 ≤ b ∧ b ≤ 14) (h : markK a = markK b) : a = b := by
  have := mark_inj ⟨a.toNat, by omega⟩ ⟨b.toNat, by omega⟩ (by show 1 ≤ a.toNat; omega) (by show 1 ≤ b.toNat; omega) (by
    show markK ((a.toNat : Nat) : Int) = markK ((b.toNat : Nat) : Int)
    rw [show ((a.toNat : Nat) : Int) = a by omega, show ((b.toNat : Nat) : Int) = b by omega]; exact h)
  have h2 : a.toNat = b.toNat := congrArg Fin.val this
  omega
theorem wire_head {v : V} (h : 1 ≤ v.kind ∧ v.kind ≤ 14) : ∃ l, v.wire = markK v.kind :: l := by
  rw [V.wire_eq]
  obtain ⟨k, hk⟩ : ∃ k, v.kind = k := ⟨_, rfl⟩
  rw [hk] at h ⊢
  split
  · exact ⟨_, rfl⟩
  split
  · rename_i h3; subst h3; exact ⟨_, rfl⟩
  split
  · rename_i h3; subst h3; exact ⟨_, rfl⟩
  split
  · rename_i h3; subst h3; exact ⟨_, rfl⟩
  split
  · rename_i h3; subst h3; exact ⟨_, rfl⟩
  split
  · exact ⟨_, rfl⟩
  split
  · exact ⟨_, rfl⟩
  · omega
theorem bits_canon {r : Nat} (h : r < 18446744073709551616) : bitsN r = canon r := by
  have h1 := order_self h
  have e : nanB r = nanF r := by
    unfold nanB
    have h2 : (FloatKind.f64.format.order r r == some .eq) = !nanF r := h1
    rw [bne, h2, Bool.not_not]
  unfold bitsN canon
  rw [e]; rfl
/-- THE BYTES OF A VALUE TELL IT, and where they end. -/
theorem wire_inj (a : V) : ∀ (b : V) (d d' : Int) (x y : List UInt8), a.fine d = true → b.fine d' = true → a.ranged → b.ranged → a.wire ++ x = b.wire ++ y → a.norm = b.norm ∧ x = y := by
  induction a using V.ind with
  | h a ih =>
  intro b d d' x y ha hb ra rb h
  rw [V.fine_eq, Bool.and_eq_true, Bool.and_eq_true] at ha hb
  obtain ⟨⟨oa, _⟩, fa⟩ := ha
  obtain ⟨⟨ob, _⟩, fb⟩ := hb
  replace oa := ok_out oa
  replace ob := ok_out ob
  rw [V.ranged_eq] at ra rb
  obtain ⟨ra1, ra2, ra3, ra4⟩ := ra
  obtain ⟨rb1, rb2, rb3, rb4⟩ := rb
  have hk : a.kind = b.kind := by
    obtain ⟨l1, e1⟩ := wire_head oa.kind
    obtain ⟨l2, e2⟩ := wire_head ob.kind
    rw [e1, e2, List.cons_append, List.cons_append] at h
    exact mark_kind oa.kind ob.kind (List.cons.inj h).1
  have key : ∀ (la lb : List V), (∀ z ∈ la, z ∈ a.list) → V.fineL la (d - 1) = true → V.fineL lb (d' - 1) = true → V.rangedL la → V.rangedL lb → la.length = lb.length → ∀ x y, V.wireL la ++ x = V.wireL lb ++ y → la.map V.norm = lb.map V.norm ∧ x = y := by
    intro la
    induction la with
    | nil =>
      intro lb _ _ _ _ _ hl x y h
      cases lb with
      | nil => exact ⟨rfl, h⟩
      | cons _ _ => cases hl
    | cons p la ihl =>
      intro lb hm f1 f2 r1 r2 hl x y h
      cases lb with
      | nil => cases hl
      | cons q lb =>
        rw [V.wireL, V.wireL, List.append_assoc, List.append_assoc] at h
        simp only [V.fineL, Bool.and_eq_true] at f1 f2
        obtain ⟨e1, e2⟩ := ih p (hm p (List.mem_cons_self ..)) q _ _ _ _ f1.1.2 f2.1.2 r1.1 r2.1 h
        obtain ⟨e3, e4⟩ := ihl lb (fun z hz => hm z (List.mem_cons_of_mem _ hz)) f1.2 f2.2 r1.2 r2.2 (by simpa using hl) x y e2
        exact ⟨by rw [List.map_cons, List.map_cons, e1, e3], e4⟩
  rw [V.norm_eq]
  rw [V.wire_eq a, V.wire_eq b, ← hk] at h
  have ob1 := ob.text
  have ob2 := ob.int
  have ob3 := ob.real
  have ob4 := ob.flag
  have ob5 := ob.list
  have ob6 := ob.line
  have ob7 := ob.big
  have ob8 := ob.even
  rw [← hk] at ob1 ob2 ob3 ob4 ob5 ob6 ob7 ob8
  have oa1 := oa.text
  have oa2 := oa.int
  have oa3 := oa.real
  have oa4 := oa.flag
  have oa5 := oa.list
  have oa6 := oa.line
  have oa7 := oa.big
  have oa8 := oa.even
  have hkk := oa.kind
  obtain ⟨k, hke⟩ : ∃ k, k = a.kind := ⟨_, rfl⟩
  rw [← hke] at h ob1 ob2 ob3 ob4 ob5 ob6 ob7 ob8 oa1 oa2 oa3 oa4 oa5 oa6 oa7 oa8 hkk
  have texts : a.text.data.toList = b.text.data.toList → a.text = b.text := fun e => ByteArray.ext (Array.toList_inj.1 e)
  by_cases c1 : k = 1 ∨ k = 2 ∨ k = 9
  · rw [if_pos c1, if_pos c1] at h
    have fr : ∀ {t : ByteArray}, (k = 1 ∨ k = 2 → crlfB t = false) → (k = 9 → bigB t = true) → (13 : UInt8) ∉ t.data.toList := fun {t} h1 h2 => by
      by_cases c : k = 9
      · exact big_free (h2 c)
      · exact crlf_free (h1 (by omega))
    obtain ⟨_, e2, e3⟩ := line_inj (fr oa6 oa7) (fr ob6 ob7) h
    exact ⟨⟨hk, texts e2, by rw [oa2 (by omega), ob2 (by omega)], by rw [oa3 (by omega), ob3 (by omega)], by rw [oa4 (by omega), ob4 (by omega)], by rw [oa5 (by omega), ob5 (by omega)]⟩, e3⟩
  rw [if_neg c1, if_neg c1] at h
  by_cases c2 : k = 3
  · rw [if_pos c2, if_pos c2] at h
    obtain ⟨_, e2, e3⟩ := num_inj h
    exact ⟨⟨hk, by rw [oa1 (by omega), ob1 (by omega)], e2, by rw [oa3 (by omega), ob3 (by omega)], by rw [oa4 (by omega), ob4 (by omega)], by rw [oa5 (by omega), ob5 (by omega)]⟩, e3⟩
  rw [if_neg c2, if_neg c2] at h
  by_cases c3 : k = 7
  · rw [if_pos c3, if_pos c3] at h
    obtain ⟨_, e2, e3⟩ := line_inj (real_free ra3) (real_free rb3) h
    have e4 := text_inj ra3 rb3 e2
    rw [← bits_canon ra3, ← bits_canon rb3] at e4
    exact ⟨⟨hk, by rw [oa1 (by omega), ob1 (by omega)], by rw [oa2 (by omega), ob2 (by omega)], e4, by rw [oa4 (by omega), ob4 (by omega)], by rw [oa5 (by omega), ob5 (by omega)]⟩, e3⟩
  rw [if_neg c3, if_neg c3] at h
  by_cases c4 : k = 8
  · rw [if_pos c4, if_pos c4] at h
    have fr : ∀ f : Bool, (13 : UInt8) ∉ (if f then [116] else [102] : List UInt8) := by decide
    obtain ⟨_, e2, e3⟩ := line_inj (fr a.flag) (fr b.flag) h
    have e4 : a.flag = b.flag := by
      revert e2
      cases a.flag <;> cases b.flag <;> simp
    exact ⟨⟨hk, by rw [oa1 (by omega), ob1 (by omega)], by rw [oa2 (by omega), ob2 (by omega)], by rw [oa3 (by omega), ob3 (by omega)], e4, by rw [oa5 (by omega), ob5 (by omega)]⟩, e3⟩
  rw [if_neg c4, if_neg c4] at h
  by_cases c5 : k = 6
  · rw [if_pos c5, if_pos c5] at h
    obtain ⟨_, _, e3⟩ := line_inj (by decide) (by decide) h
    exact ⟨⟨hk, by rw [oa1 (by omega), ob1 (by omega)], by rw [oa2 (by omega), ob2 (by omega)], by rw [oa3 (by omega), ob3 (by omega)], by rw [oa4 (by omega), ob4 (by omega)], by rw [oa5 (by omega), ob5 (by omega)]⟩, e3⟩
  rw [if_neg c5, if_neg c5] at h
  by_cases c6 : k = 4 ∨ k = 10 ∨ k = 11
  · rw [if_pos c6, if_pos c6] at h
    obtain ⟨_, e2, e3⟩ := long_inj h
    exact ⟨⟨hk, texts e2, by rw [oa2 (by omega), ob2 (by omega)], by rw [oa3 (by omega), ob3 (by omega)], by rw [oa4 (by omega), ob4 (by omega)], by rw [oa5 (by omega), ob5 (by omega)]⟩, e3⟩
  rw [if_neg c6, if_neg c6] at h
  by_cases c7 : k = 5 ∨ k = 12 ∨ k = 13 ∨ k = 14
  · rw [if_pos c7, if_pos c7, List.append_assoc, List.append_assoc] at h
    obtain ⟨_, e2, e3⟩ := num_inj h
    have hl : a.list.length = b.list.length := by
      unfold manyK at e2
      by_cases c : k = 12
      · have := oa8 c; have := ob8 c
        rw [if_pos c, if_pos c] at e2; omega
      · rw [if_neg c, if_neg c] at e2; omega
    obtain ⟨e4, e5⟩ := key a.list b.list (fun _ h => h) fa fb ra4 rb4 hl x y e3
    exact ⟨⟨hk, by rw [oa1 (by omega), ob1 (by omega)], by rw [oa2 (by omega), ob2 (by omega)], by rw [oa3 (by omega), ob3 (by omega)], by rw [oa4 (by omega), ob4 (by omega)], e4⟩, e5⟩
  · omega
/-- The same values have the same bytes. -/
theorem wire_norm (a : V) : ∀ b : V, a.ranged → b.ranged → a.norm = b.norm → a.wire = b.wire := by
  induction a using V.ind with
  | h a ih =>
  intro b ra rb h
  rw [V.norm_eq] at h
  obtain ⟨h1, h2, h3, h4, h5, h6⟩ := h
  rw [V.ranged_eq] at ra rb
  have hr : realL a.real = realL b.real := by
    rw [bits_canon ra.2.2.1, bits_canon rb.2.2.1] at h4
    rw [← text_canon a.real, h4, text_canon]
  have hl : a.list.length = b.list.length := by
    have := congrArg List.length h6
    simpa using this
  have key : ∀ (la lb : List V), (∀ z ∈ la, z ∈ a.list) → V.rangedL la → V.rangedL lb → la.map V.norm = lb.map V.norm → V.wireL la = V.wireL lb := by
    intro la
    induction la with
    | nil =>
      intro lb _ _ _ h
      cases lb with
      | nil => rfl
      | cons _ _ => simp at h
    | cons p la ihl =>
      intro lb hm r1 r2 h
      cases lb with
      | nil => simp at h
      | cons q lb =>
        rw [List.map_cons, List.map_cons] at h
        obtain ⟨e1, e2⟩ := List.cons.inj h
        rw [V.wireL, V.wireL, ih p (hm p (List.mem_cons_self ..)) q r1.1 r2.1 e1, ihl lb (fun z hz => hm z (List.mem_cons_of_mem _ hz)) r1.2 r2.2 e2]
  have hw := key a.list b.list (fun _ h => h) ra.2.2.2 rb.2.2.2 h6
  rw [V.wire_eq, V.wire_eq, h1, h2, h3, hr, h5, hl, hw]
theorem wire_begins {a b : V} {d d' : Int} (ha : a.fine d = true) (hb : b.fine d' = true) (ra : a.ranged) (rb : b.ranged) : (∃ z, b.wire = a.wire ++ z) ↔ a.norm = b.norm := by
  constructor
  · rintro ⟨z, hz⟩
    refine (wire_inj a b d d' z [] ha hb ra rb ?_).1
    rw [List.append_nil]; exact hz.symm
  · intro h
    exact ⟨[], by rw [List.append_nil]; exact (wire_norm a b ra rb h).symm⟩

/-! ### how long -/
theorem itoa_len21 {n : Int} (h0 : -9223372036854775808 ≤ n) (h1 : n ≤ 9223372036854775807) : (Lib.itoa n).length ≤ 21 := by
  have := Lib.itoa_length_le n h0 h1; omega
theorem lineL_len (m : UInt8) (t : List UInt8) : (lineL m t).length = t.length + 3 := by unfold lineL; simp
theorem numL_len (m : UInt8) {n : Int} (h0 : -9223372036854775808 ≤ n) (h1 : n ≤ 9223372036854775807) : (numL m n).length ≤ 24 := by
  have := itoa_len21 h0 h1
  unfold numL; rw [lineL_len]; omega
theorem size_l' (t : ByteArray) : t.data.toList.length = t.size := (size_l t).symm
theorem wire_len (a : V) : ∀ d : Int, a.fine d = true → a.ranged → a.count ≤ 100000 → 3 ≤ a.wire.length ∧ a.wire.length ≤ 5000 * a.count := by
  induction a using V.ind with
  | h a ih =>
  intro d ha ra hc
  rw [V.fine_eq, Bool.and_eq_true, Bool.and_eq_true] at ha
  obtain ⟨⟨oa, _⟩, fa⟩ := ha
  replace oa := ok_out oa
  rw [V.ranged_eq] at ra
  obtain ⟨ra1, ra2, ra3, ra4⟩ := ra
  have hce := a.count_eq
  have hln := V.length_le a.list
  have key : ∀ (la : List V), (∀ z ∈ la, z ∈ a.list) → V.fineL la (d - 1) = true → V.rangedL la → V.countL la ≤ 100000 → (V.wireL la).length ≤ 5000 * V.countL la := by
    intro la
    induction la with
    | nil => intro _ _ _ _; exact Nat.zero_le _
    | cons p la ihl =>
      intro hm f1 r1 hc
      simp only [V.fineL, Bool.and_eq_true] at f1
      simp only [V.countL] at hc ⊢
      have h1 := (ih p (hm p (List.mem_cons_self ..)) _ f1.1.2 r1.1 (by omega)).2
      have h2 := ihl (fun z hz => hm z (List.mem_cons_of_mem _ hz)) f1.2 r1.2 (by omega)
      rw [V.wireL, List.length_append]; omega
  have hL := key a.list (fun _ h => h) fa ra4 (by omega)
  have hsz := oa.size
  have hkk := oa.kind
  have hn : ∀ m : UInt8, ∀ n : Nat, n ≤ 100000 → (numL m (n : Int)).length ≤ 24 := fun m n hn => numL_len m (by omega) (by omega)
  have hn3 : ∀ (m : UInt8) (n : Int), 3 ≤ (numL m n).length := fun m n => by unfold numL; rw [lineL_len]; omega
  have hm : manyK a.kind a.list.length ≤ 100000 := by unfold manyK; split <;> omega
  have ht := size_l' a.text
  have hr := text_len ra3
  rw [V.wire_eq]
  split
  · rw [lineL_len]; omega
  split
  · have h1 := numL_len 58 ra1 ra2
    have h2 := hn3 58 a.int
    omega
  split
  · rw [lineL_len]; omega
  split
  · rw [lineL_len]; split <;> simp <;> omega
  split
  · rw [lineL_len]; simp; omega
  split
  · unfold longL
    have h1 := hn (markK a.kind) a.text.data.toList.length (by omega)
    have h2 := hn3 (markK a.kind) a.text.data.toList.length
    simp only [List.length_append, List.length_cons, List.length_nil]; omega
  split
  · have h1 := hn (markK a.kind) (manyK a.kind a.list.length) hm
    have h2 := hn3 (markK a.kind) (manyK a.kind a.list.length)
    rw [List.length_append]; omega
  · omega
end Go.Proofs.YtagkgfniihiinaaGreatDoor
