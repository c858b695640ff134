/- nearhandref06.Words at a line without marks: words between blanks. -/
import Derived.Test.YtdhojdkeidilfaaDoorCasesP
namespace Go.Proofs.YtdhojdkeidilfaaDoor
open Go.RowKit

set_option maxHeartbeats 1600000 in
theorem one06_any (b : UInt8) (w : World) : Calls Tryd.prog 33 #[.int .u8 b.toNat] w fun e w' => e = .returned (.string ⟨#[b]⟩) ∧ Below w.heap.size w w' := by
  have hcb := run_convert_bytes_back (P := Tryd.prog) (w.alloc (.cells #[.int .u8 b.toNat] 5)) 30 9 5 ⟨w.heap.size, 0, none⟩ 1 [b] Tryd.underlying30 Tryd.underlying5 Tryd.underlying9 (fun q hq => by
    have h9 : (⟨w.heap.size, 0, none⟩ : Addr).add q = ⟨w.heap.size, q, none⟩ := by unfold Addr.add; split <;> simp_all
    have : q = 0 := by simpa using hq
    subst this
    rw [h9, World.cell?_alloc_new]; rfl)
  have hb := (Below.refl w.heap.size w).alloc (Nat.le_refl _) (.cells #[.int .u8 b.toNat] 5)
  replace hb := Lib.hid hb
  replace hcb : (convert 30 9 (.slice (some ⟨w.heap.size, 0, none⟩) 1 1)).run Tryd.prog (w.alloc (.cells #[.int .u8 b.toNat] 5)) = .ok (.string ⟨#[b]⟩) (w.alloc (.cells #[.int .u8 b.toNat] 5)) := hcb
  go_enter Tryd.func33, Tryd.ntmps33
  go_wp2
  go_ret
  exact ⟨rfl, hb.out⟩

/-- What is there after some bytes: the words, whether one is under way, and it. -/
abbrev WS := List ByteArray × Bool × ByteArray
def wgap (c : UInt8) : Bool := c == 32 || c == 9
def wstep (s : WS) (c : UInt8) : WS :=
  if s.2.1 then (if wgap c then (s.1 ++ [s.2.2], false, s.2.2) else (s.1, true, s.2.2 ++ ⟨#[c]⟩)) else (if wgap c then s else (s.1, true, ⟨#[c]⟩))
def wfold (l : List UInt8) : WS := l.foldl wstep ([], false, ⟨#[]⟩)
def wends (s : WS) : List ByteArray := if s.2.1 then s.1 ++ [s.2.2] else s.1
def wordsL (s : ByteArray) : List ByteArray := wends (wfold s.data.toList)
theorem wfold_snoc (l : List UInt8) (c : UInt8) : wfold (l ++ [c]) = wstep (wfold l) c := by simp [wfold]
theorem size_app (a b : ByteArray) : (a ++ b).size = a.size + b.size := ByteArray.size_append
/-- No more words than bytes, and none longer. -/
theorem wfold_small (l : List UInt8) : (wends (wfold l)).length ≤ l.length ∧ (∀ x ∈ (wfold l).1, x.size ≤ l.length) ∧ (wfold l).2.2.size ≤ l.length ∧ (wfold l).1.length ≤ l.length := by
  have key : ∀ n, ∀ l : List UInt8, l.length = n → (wends (wfold l)).length ≤ l.length ∧ (∀ x ∈ (wfold l).1, x.size ≤ l.length) ∧ (wfold l).2.2.size ≤ l.length ∧ (wfold l).1.length ≤ l.length := by
    intro n
    induction n with
    | zero => intro l hl; cases List.length_eq_zero_iff.1 hl; decide
    | succ n ih =>
      intro l hl
      obtain ⟨l', c, rfl⟩ : ∃ l' c, l = l' ++ [c] := ⟨l.dropLast, l.getLast (by intro h; subst h; simp at hl), (List.dropLast_concat_getLast _).symm⟩
      have hl' : l'.length = n := by simpa using hl
      obtain ⟨h1, h2, h3, h4⟩ := ih l' hl'
      rw [wfold_snoc]
      generalize wfold l' = s at *
      obtain ⟨o, b, d⟩ := s
      simp only [List.length_append, List.length_singleton]
      simp only [wends] at h1 h2 h3 h4
      have z1 : ByteArray.size ⟨#[c]⟩ = 1 := rfl
      cases b with
      | true =>
        simp only [if_true, List.length_append, List.length_singleton] at h1
        simp only [wstep, if_true, wends]
        cases wgap c with
        | true =>
          simp only [if_true, List.length_append, List.length_singleton, List.mem_append, List.mem_singleton]
          refine ⟨by simp; omega, fun x hx => ?_, by omega, by omega⟩
          rcases hx with hx | rfl
          · have := h2 x hx; omega
          · omega
        | false =>
          simp only [Bool.false_eq_true, if_false, if_true, List.length_append, List.length_singleton]
          exact ⟨by omega, fun x hx => by have := h2 x hx; omega, by rw [size_app, z1]; omega, by omega⟩
      | false =>
        simp only [Bool.false_eq_true, if_false] at h1
        simp only [wstep, Bool.false_eq_true, if_false, wends]
        cases wgap c with
        | true =>
          simp only [if_true, Bool.false_eq_true, if_false]
          exact ⟨by omega, fun x hx => by have := h2 x hx; omega, by omega, by omega⟩
        | false =>
          simp only [Bool.false_eq_true, if_false, if_true, List.length_append, List.length_singleton]
          exact ⟨by omega, fun x hx => by have := h2 x hx; omega, by rw [z1]; omega, by omega⟩
  exact key _ l rfl
theorem Reads.at' {w : World} {size : Nat} {v : Value} {n : Nat} {xs : List Value} (h : Reads w size v n xs) {j : Nat} (hj : j < xs.length) : ∃ b o c, v = .slice (some ⟨b, o, none⟩) n c ∧ ∀ j u, xs[j]? = some u → w.cell? ⟨b, o + j, none⟩ = some u := by
  obtain ⟨a, c, rfl⟩ := h.shape
  obtain ⟨b, o, rfl, hc⟩ := h.at hj
  exact ⟨b, o, c, rfl, hc⟩
theorem len_of {α : Type} {w : World} {base e size n : Nat} {v : Value} {f : α → Value} {l : List α} (h : w.ownsRow base e size v n (l.map f)) (hs : size = 1) : n = l.length := by
  subst hs
  have := h.1
  simp at this
  omega
set_option maxRecDepth 100000 in
set_option maxHeartbeats 3200000 in
theorem words06_any (s : ByteArray) (hs : s.size ≤ 64) (hp : ∀ c ∈ s.data.toList, c.toNat ≠ 34 ∧ c.toNat ≠ 39) (w : World) :
    Calls Tryd.prog 24 #[.string s] w fun e w' => ∃ v, e = .returned (.tuple #[v, .int .i64 0]) ∧ (∃ n, w'.ownsRow w.heap.size 9 1 v n ((wordsL s).map Value.string)) ∧ Below w.heap.size w w' := by
  have hown0 := owns_empty w 9 1
  have hbel0 := (Below.refl w.heap.size w).alloc (Nat.le_refl _) (.cells #[] 9)
  replace hown0 := Lib.hid hown0
  replace hbel0 := Lib.hid hbel0
  replace hp := Lib.hid hp
  go_enter Tryd.func24, Tryd.ntmps24
  go_wp2_with fail
  generalize w.alloc (.cells #[] 9) = w1 at *
  go_loopw [4, 5, 6, 8] (fun v st d i wr => ∃ (k n : Nat) (b : Bool), k ≤ s.size ∧ (wfold (s.data.toList.take k)).2.1 = b ∧ st = .int .i64 (if b then 1 else 0) ∧ d = .string (wfold (s.data.toList.take k)).2.2 ∧ i = .int .i64 k ∧
      wr.ownsRow w.heap.size 9 1 v n ((wfold (s.data.toList.take k)).1.map Value.string) ∧ Below w.heap.size w wr) (fun _ _ _ i _ => s.size - (intOf i).toNat)
  case atStart => exact ⟨0, 0, false, Nat.zero_le _, rfl, rfl, rfl, rfl, hown0.out, hbel0.out⟩
  case round =>
    obtain ⟨k, n, b, hk, hb, rfl, rfl, rfl, hown, hbel⟩ := hrel
    have hsm := wfold_small (s.data.toList.take k)
    have hnl := len_of hown rfl
    obtain ⟨S, hS⟩ : ∃ S, S = wfold (s.data.toList.take k) := ⟨_, rfl⟩
    rw [← hS] at hb hown hsm hnl
    try rw [← hS]
    have hkl : (s.data.toList.take k).length = k := by rw [List.length_take, Array.length_toList]; exact Nat.min_eq_left hk
    rw [hkl] at hsm
    clear hkl hown0 hbel0
    by_cases hlt : k < s.size
    · have hlti : (k : Int) < s.size := by omega
      obtain ⟨c, hc⟩ : ∃ c : UInt8, s[k]'hlt = c := ⟨_, rfl⟩
      have hcl : s.data.toList[k]? = some c := by rw [Lib.data_getElem? s k hlt, hc]
      have hc3 := hp.out c (List.mem_of_getElem? hcl)
      have hstep : wfold (s.data.toList.take (k + 1)) = wstep S c := by
        rw [hS, ← wfold_snoc]
        congr 1
        rw [List.take_add_one, hcl]; rfl
      have f1 : ((c.toNat : Int) == 34) = false := by simpa using fun h => hc3.1 (by omega)
      have f2 : ((c.toNat : Int) == 39) = false := by simpa using fun h => hc3.2 (by omega)
      have hgap : wgap c = (((c.toNat : Int) == 32) || ((c.toNat : Int) == 9)) := by
        unfold wgap
        congr 1
        · rw [Bool.eq_iff_iff]; simp only [beq_iff_eq]; constructor
          · rintro rfl; rfl
          · intro h; exact UInt8.toNat_inj.1 (by show c.toNat = 32; omega)
        · rw [Bool.eq_iff_iff]; simp only [beq_iff_eq]; constructor
          · rintro rfl; rfl
          · intro h; exact UInt8.toNat_inj.1 (by show c.toNat = 9; omega)
      have hn9 : n < 1000000000 := by have := hsm.2.2.2; omega
      have hbs := hbel.size
      obtain ⟨out, st, d⟩ := S
      simp only at hb hown hsm hnl
      subst hb
      replace hS := Lib.hid hS
      replace hsm := Lib.hid hsm
      replace hnl := Lib.hid hnl
      replace hcl := Lib.hid hcl
      replace hstep := Lib.hid hstep
      obtain ⟨g1, hg1⟩ : ∃ g, g = ((c.toNat : Int) == 32) := ⟨_, rfl⟩
      obtain ⟨g2, hg2⟩ : ∃ g, g = ((c.toNat : Int) == 9) := ⟨_, rfl⟩
      rw [← hg1, ← hg2] at hgap
      replace hg1 := hg1.symm
      replace hg2 := hg2.symm
      replace hgap := Lib.hid hgap
      clear hc3
      cases st with
      | false =>
        by_cases hgg : wgap c = true
        · have hst : wstep (out, false, d) c = (out, false, d) := by simp [wstep, hgg]
          have hor : (g1 || g2) = true := by rw [← hgap.out]; exact hgg
          replace hstep := Lib.hid (hstep.out.trans hst)
          clear hgap hgg hst
          cases g1 with
          | true =>
            go_wp2_with fail
            go_roundw
            case rel => exact ⟨k + 1, n, false, by omega, by rw [hstep.out], rfl, by rw [hstep.out], by go_num, by rw [hstep.out]; exact hown, hbel⟩
            case measure => simp [intOf]; omega
          | false =>
            cases g2 with
            | false => simp at hor
            | true =>
              go_wp2_with fail
              go_roundw
              case rel => exact ⟨k + 1, n, false, by omega, by rw [hstep.out], rfl, by rw [hstep.out], by go_num, by rw [hstep.out]; exact hown, hbel⟩
              case measure => simp [intOf]; omega
        · have hst : wstep (out, false, d) c = (out, true, ⟨#[c]⟩) := by simp [wstep, hgg]
          have hor : (g1 || g2) = false := by rw [← hgap.out]; simpa using hgg
          replace hstep := Lib.hid (hstep.out.trans hst)
          obtain ⟨rfl, rfl⟩ : g1 = false ∧ g2 = false := by simpa using hor
          clear hgap hgg hst hor
          go_wp2_with fail
          refine (one06_any c _).mono ?_
          rintro e w2 ⟨rfl, hb2⟩
          have hown2 := owns_below hown hb2 (Nat.le_refl _)
          have hbel2 := hbel.trans (hb2.mono hbs)
          clear hown hbel hb2
          go_wp2_with fail
          go_roundw
          case rel => exact ⟨k + 1, n, true, by omega, by rw [hstep.out], rfl, by rw [hstep.out], by go_num, by rw [hstep.out]; exact hown2, hbel2⟩
          case measure => simp [intOf]; omega
      | true =>
        by_cases hgg : wgap c = true
        · have hst : wstep (out, true, d) c = (out ++ [d], false, d) := by simp [wstep, hgg]
          have hor : (g1 || g2) = true := by rw [← hgap.out]; exact hgg
          replace hstep := Lib.hid (hstep.out.trans hst)
          clear hgap hgg hst
          cases g1 with
          | true =>
            go_wp2_with (at_builtin; refine append_elem rfl rfl eStr17 rfl hown rfl rfl rfl hn9 hbs ?_)
            intro v' w6 hown' hfr
            have hbel' := Below.of_append hbel hfr (fun k hk => (owns_block hown k hk).1) hbs
            clear hown hbel hfr
            go_wp2_with fail
            go_roundw
            case rel => exact ⟨k + 1, n + 1, false, by omega, by rw [hstep.out], rfl, by rw [hstep.out], by go_num, by rw [hstep.out, List.map_append]; exact hown', hbel'⟩
            case measure => simp [intOf]; omega
          | false =>
            cases g2 with
            | false => simp at hor
            | true =>
              go_wp2_with (at_builtin; refine append_elem rfl rfl eStr17 rfl hown rfl rfl rfl hn9 hbs ?_)
              intro v' w6 hown' hfr
              have hbel' := Below.of_append hbel hfr (fun k hk => (owns_block hown k hk).1) hbs
              clear hown hbel hfr
              go_wp2_with fail
              go_roundw
              case rel => exact ⟨k + 1, n + 1, false, by omega, by rw [hstep.out], rfl, by rw [hstep.out], by go_num, by rw [hstep.out, List.map_append]; exact hown', hbel'⟩
              case measure => simp [intOf]; omega
        · have hst : wstep (out, true, d) c = (out, true, d ++ ⟨#[c]⟩) := by simp [wstep, hgg]
          have hor : (g1 || g2) = false := by rw [← hgap.out]; simpa using hgg
          replace hstep := Lib.hid (hstep.out.trans hst)
          obtain ⟨rfl, rfl⟩ : g1 = false ∧ g2 = false := by simpa using hor
          have hds : ¬ 9223372036854775807 < d.size + 1 := by have := hsm.out.2.2.1; omega
          clear hgap hgg hst hor
          go_wp2_with fail
          refine (one06_any c _).mono ?_
          rintro e w2 ⟨rfl, hb2⟩
          have hown2 := owns_below hown hb2 (Nat.le_refl _)
          have hbel2 := hbel.trans (hb2.mono hbs)
          clear hown hbel hb2
          go_wp2_with fail
          go_roundw
          case rel => exact ⟨k + 1, n, true, by omega, by rw [hstep.out], rfl, by rw [hstep.out], by go_num, by rw [hstep.out]; exact hown2, hbel2⟩
          case measure => simp [intOf]; omega
    · have hlti : ¬ (k : Int) < s.size := by omega
      have hall : wordsL s = wends S := by
        rw [hS, wordsL]
        congr 2
        rw [List.take_of_length_le (by rw [Array.length_toList]; show s.size ≤ k; omega)]
      have hn9 : n < 1000000000 := by have := hsm.2.2.2; omega
      have hbs := hbel.size
      obtain ⟨out, st, d⟩ := S
      simp only at hb hown hsm hnl
      subst hb
      cases st with
      | false =>
        have hall2 : wordsL s = out := hall
        have hsm2 : ∀ x ∈ out, x.size ≤ 64 := fun x hx => by have := hsm.2.1 x hx; omega
        have hn64 : n ≤ 64 := by have := hsm.2.2.2; omega
        replace hsm2 := Lib.hid hsm2
        obtain ⟨o, ho⟩ : ∃ o, o = out := ⟨_, rfl⟩
        rw [← ho] at hsm2 hown hall2
        replace hall2 := Lib.hid hall2
        clear hsm hall hS hnl ho
        replace hlti := Lib.hid hlti
        have hrd := Reads.of_owns hown
        obtain ⟨a9, c9, rfl⟩ := hrd.shape
        have hnl := len_of hown rfl
        replace hrd := Lib.hid hrd
        replace hbel := Lib.hid hbel
        replace hown := Lib.hid hown
        have hn64 : ¬ (64 : Int) < n := by omega
        replace hnl := Lib.hid hnl
        go_wp2_with fail
        go_loop [176] (fun s176 => ∃ q : Nat, q ≤ n ∧ s176 = .int .i64 q) (fun s176 => n - (intOf s176).toNat)
        case atStart => exact ⟨0, Nat.zero_le _, rfl⟩
        case round =>
          obtain ⟨q, hq, rfl⟩ := hrel
          by_cases hlt : q < n
          · have hqn : q < o.length := by have := hnl.out; omega
            obtain ⟨b3, o3, rfl, hc3⟩ := hrd.out.at (j := q) (by simp; exact hqn)
            have dx := hc3 _ _ (map_str_get hqn)
            have hsz := hsm2.out _ (List.getElem_mem hqn)
            obtain ⟨line, hline⟩ : ∃ z, z = o[q] := ⟨_, rfl⟩
            rw [← hline] at dx hsz
            have hlti : (q : Int) < n := by omega
            have hszi : ¬ (4096 : Int) < line.size := by omega
            replace hline := Lib.hid hline
            clear hc3
            go_wp2
            go_roundw
            case rel => exact ⟨q + 1, by omega, by go_num⟩
            case measure => simp [intOf]; omega
          · have hqn : ¬ (q : Int) < n := by omega
            go_wp2
            go_ret2
            exact ⟨_, rfl, ⟨_, by rw [hall2.out]; exact hown.out⟩, hbel.out⟩
      | true =>
        have hall2 : wordsL s = out ++ [d] := hall
        have hsm2 : ∀ x ∈ out ++ [d], x.size ≤ 64 := fun x hx => by
          rcases List.mem_append.1 hx with h | h
          · have := hsm.2.1 x h; omega
          · rw [List.mem_singleton.1 h]; have := hsm.2.2.1; omega
        have hn64 : n + 1 ≤ 64 := by have h8 := hsm.1; simp [wends] at h8; omega
        replace hsm2 := Lib.hid hsm2
        clear hsm hall hS hnl
        go_wp2_with (at_builtin; refine append_elem rfl rfl eStr17 rfl hown rfl rfl rfl hn9 hbs ?_)
        intro v' w6 hown' hfr
        have hbel' := Below.of_append hbel hfr (fun k hk => (owns_block hown k hk).1) hbs
        have hown2 : w6.ownsRow w.heap.size 9 1 v' (n + 1) ((out ++ [d]).map Value.string) := by rw [List.map_append]; exact hown'
        obtain ⟨o, ho⟩ : ∃ o, o = out ++ [d] := ⟨_, rfl⟩
        rw [← ho] at hsm2 hown2 hall2
        replace hall2 := Lib.hid hall2
        clear hown hown' hbel hfr ho
        obtain ⟨m, hm⟩ : ∃ m, m = n + 1 := ⟨_, rfl⟩
        rw [← hm] at hown2 hn64
        clear hm hn9 hbs
        replace hown := hown2
        replace hbel := hbel'
        obtain ⟨n, rfl⟩ : ∃ n, n = m := ⟨_, rfl⟩
        replace hlti := Lib.hid hlti
        have hrd := Reads.of_owns hown
        obtain ⟨a9, c9, rfl⟩ := hrd.shape
        have hnl := len_of hown rfl
        replace hrd := Lib.hid hrd
        replace hbel := Lib.hid hbel
        replace hown := Lib.hid hown
        have hn64 : ¬ (64 : Int) < n := by omega
        replace hnl := Lib.hid hnl
        go_wp2_with fail
        go_loop [176] (fun s176 => ∃ q : Nat, q ≤ n ∧ s176 = .int .i64 q) (fun s176 => n - (intOf s176).toNat)
        case atStart => exact ⟨0, Nat.zero_le _, rfl⟩
        case round =>
          obtain ⟨q, hq, rfl⟩ := hrel
          by_cases hlt : q < n
          · have hqn : q < o.length := by have := hnl.out; omega
            obtain ⟨b3, o3, rfl, hc3⟩ := hrd.out.at (j := q) (by simp; exact hqn)
            have dx := hc3 _ _ (map_str_get hqn)
            have hsz := hsm2.out _ (List.getElem_mem hqn)
            obtain ⟨line, hline⟩ : ∃ z, z = o[q] := ⟨_, rfl⟩
            rw [← hline] at dx hsz
            have hlti : (q : Int) < n := by omega
            have hszi : ¬ (4096 : Int) < line.size := by omega
            replace hline := Lib.hid hline
            clear hc3
            go_wp2
            go_roundw
            case rel => exact ⟨q + 1, by omega, by go_num⟩
            case measure => simp [intOf]; omega
          · have hqn : ¬ (q : Int) < n := by omega
            go_wp2
            go_ret2
            exact ⟨_, rfl, ⟨_, by rw [hall2.out]; exact hown.out⟩, hbel.out⟩
end Go.Proofs.YtdhojdkeidilfaaDoor
