/- Commands: what they are, and all of them. -/
import Derived.Test.YtdhojdkeidilfaaDoorProg
import Derived.Test.YtdhojdkeidilfaaDoorGives
import Derived.StillTailTactics
import Derived.Deep.DeepCutAuto
namespace Go.Proofs.YtdhojdkeidilfaaDoor
open Go.RowKit

theorem Below.setCells' {B b : Nat} (hB : B ≤ b) {a : World} : ∀ (vs : List Value) (o : Nat) (w : World), Below B a w → Below B a (w.setCells b o vs)
  | [], _, _, h => h
  | v :: vs, o, w, h => by rw [World.setCells]; exact Below.setCells' hB vs (o + 1) _ (h.setCell hB v)
structure Spec where
  name : ByteArray
  kind : Int
  least : Int
  most : Int
  first : Int
  last : Int
  step : Int
def Spec.cells (s : Spec) : List Value := [.string s.name, .int .i64 s.kind, .int .i64 s.least, .int .i64 s.most, .int .i64 s.first, .int .i64 s.last, .int .i64 s.step]
theorem infoSpec : (Tryd.prog.info? 26).map (·.size) = some 7 := by kernel_rfl
theorem eSpec : Elem Tryd.prog 22 26 7 64 := elem_of Tryd.underlying22 (by decide) (by decide) (by kernel_rfl)
theorem one7 (n : ByteArray) (a b c d e f : Int) : (#[Value.string n, .int .i64 a, .int .i64 b, .int .i64 c, .int .i64 d, .int .i64 e, .int .i64 f] : Array Value).all (·.oneCell') = true := by simp [Value.oneCell']

theorem cell_b {w w' : World} {a : Addr} {u : Value} (hb : Below w.heap.size w w') (h : w.cell? a = some u) : w'.cell? a = some u := by rw [hb.cell (World.block_lt_of_cell? _ _ h)]; exact h
def spR (i : Nat) (w w' : World) : Prop := match i with
  | 18 => True
  | _ => w' = w
set_option maxRecDepth 100000 in
set_option maxHeartbeats 1600000 in
theorem spec_at (n : ByteArray) (k l m f la st : Int) (W : World) :
    Calls Tryd.prog 22 #[.string n, .int .i64 k, .slice (some ⟨W.heap.size, 0, none⟩) 5 5] (W.alloc (.cells #[.int .i64 l, .int .i64 m, .int .i64 f, .int .i64 la, .int .i64 st] 3)) fun e w' =>
      e = .returned (.agg #[.string n, .int .i64 k, .int .i64 l, .int .i64 m, .int .i64 f, .int .i64 la, .int .i64 st]) ∧ Below W.heap.size W w' := by
  have hb0 := (Below.refl W.heap.size W).alloc (Nat.le_refl _) (.cells #[.int .i64 l, .int .i64 m, .int .i64 f, .int .i64 la, .int .i64 st] 3)
  obtain ⟨W1, hW1⟩ : ∃ W1, W1 = W.alloc (.cells #[.int .i64 l, .int .i64 m, .int .i64 f, .int .i64 la, .int .i64 st] 3) := ⟨_, rfl⟩
  have c0 : W1.cell? ⟨W.heap.size, 0, none⟩ = some (.int .i64 l) := by rw [hW1, World.cell?_alloc_new]; rfl
  have c1 : W1.cell? ⟨W.heap.size, 1, none⟩ = some (.int .i64 m) := by rw [hW1, World.cell?_alloc_new]; rfl
  have c2 : W1.cell? ⟨W.heap.size, 2, none⟩ = some (.int .i64 f) := by rw [hW1, World.cell?_alloc_new]; rfl
  have c3 : W1.cell? ⟨W.heap.size, 3, none⟩ = some (.int .i64 la) := by rw [hW1, World.cell?_alloc_new]; rfl
  have c4 : W1.cell? ⟨W.heap.size, 4, none⟩ = some (.int .i64 st) := by rw [hW1, World.cell?_alloc_new]; rfl
  have hl : W.heap.size < W1.heap.size := by rw [hW1]; simp
  rw [← hW1] at hb0 ⊢
  obtain ⟨b, hb⟩ : ∃ b, b = W.heap.size := ⟨_, rfl⟩
  rw [← hb] at c0 c1 c2 c3 c4 hl hb0 ⊢
  clear hW1 hb
  have hz : (W1.alloc (.cells #[.string ⟨#[]⟩, .int .i64 0, .int .i64 0, .int .i64 0, .int .i64 0, .int .i64 0, .int .i64 0] 26)).cell? ⟨W1.heap.size, 0, none⟩ = some (.string ⟨#[]⟩) := by rw [World.cell?_alloc_new]; rfl
  have hbw : b ≤ W1.heap.size := Nat.le_of_lt hl
  replace hb0 := Lib.hid hb0
  go_enter Tryd.func22, Tryd.ntmps22
  go_wp2_with fail
  obtain ⟨W2, hW2⟩ : ∃ W2, W2 = W1.alloc (.cells #[.string ⟨#[]⟩, .int .i64 0, .int .i64 0, .int .i64 0, .int .i64 0, .int .i64 0, .int .i64 0] 26) := ⟨_, rfl⟩
  have hb2 : Below W1.heap.size W1 W2 := by rw [hW2]; exact (Below.refl _ _).alloc (Nat.le_refl _) _
  have hR : W2.rangeAt W1.heap.size 0 [.string ⟨#[]⟩, .int .i64 0, .int .i64 0, .int .i64 0, .int .i64 0, .int .i64 0, .int .i64 0] := fun j u hj => by rw [hW2, Nat.zero_add, World.cell?_alloc_new]; simpa using hj
  have hB : Blk W2 W1.heap.size := by rw [hW2]; exact Blk.new _ _ _
  rw [← hW2]
  replace c0 := cell_b hb2 c0
  replace c1 := cell_b hb2 c1
  replace c2 := cell_b hb2 c2
  replace c3 := cell_b hb2 c3
  replace c4 := cell_b hb2 c4
  have hxl : W1.heap.size < W2.heap.size := hB.lt
  have hbl : b < W2.heap.size := Nat.lt_trans hl hxl
  have ht := there_of (n := 7) hR hB rfl
  have hrb : (W2.setCells W1.heap.size 0 [.string n, .int .i64 k, .int .i64 l, .int .i64 m, .int .i64 f, .int .i64 la, .int .i64 st]).rangeAt W1.heap.size 0 [.string n, .int .i64 k, .int .i64 l, .int .i64 m, .int .i64 f, .int .i64 la, .int .i64 st] := World.rangeAt_setCells_same _ _ _ _ ht
  clear hW2
  refine wp_region_rely (l := [_, _, _, _, _, _, _, _, _, _, _, _, _, _, _, _, _, _, _]) (fun _ => True) (Below W2.heap.size W2) spR (fun kG_ => ([fun v _ => v = .string n, fun v _ => v = .int .i64 k, fun v _ => v = .slice (some ⟨b, 0, none⟩) 5 5, fun v _ => v = .pointer (some ⟨b, 0, none⟩), fun v _ => v = .int .i64 l, fun v _ => v = .slice (some ⟨b, 0, none⟩) 5 5, fun v _ => v = .pointer (some ⟨b, 1, none⟩), fun v _ => v = .int .i64 m, fun v _ => v = .slice (some ⟨b, 0, none⟩) 5 5, fun v _ => v = .pointer (some ⟨b, 2, none⟩), fun v _ => v = .int .i64 f, fun v _ => v = .slice (some ⟨b, 0, none⟩) 5 5, fun v _ => v = .pointer (some ⟨b, 3, none⟩), fun v _ => v = .int .i64 la, fun v _ => v = .slice (some ⟨b, 0, none⟩) 5 5, fun v _ => v = .pointer (some ⟨b, 4, none⟩), fun v _ => v = .int .i64 st, fun v _ => v = .agg #[.string n, .int .i64 k, .int .i64 l, .int .i64 m, .int .i64 f, .int .i64 la, .int .i64 st], fun v w => ∃ w1 : World, w = w1.setCells W1.heap.size 0 [.string n, .int .i64 k, .int .i64 l, .int .i64 m, .int .i64 f, .int .i64 la, .int .i64 st] ∧ Below W2.heap.size W2 w1] : List (Value → World → Prop)).getD kG_ (fun _ _ => True)) (eats []) (isIn [18]) (by kernel_rfl) (by kernel_rfl) (by kernel_rfl) trivial ((Below.refl _ _).drew) ?_ ?_ ?_ ?_
  · intro i kG_ u w w' hne hE hg hr
    rcases kG_ with _ | _ | _ | _ | _ | _ | _ | _ | _ | _ | _ | _ | _ | _ | _ | _ | _ | _ | _ | kG_
    · exact hg
    · exact hg
    · exact hg
    · exact hg
    · exact hg
    · exact hg
    · exact hg
    · exact hg
    · exact hg
    · exact hg
    · exact hg
    · exact hg
    · exact hg
    · exact hg
    · exact hg
    · exact hg
    · exact hg
    · exact hg
    · replace hg : (fun (v : Value) (w : World) => ∃ w1 : World, w = w1.setCells W1.heap.size 0 [.string n, .int .i64 k, .int .i64 l, .int .i64 m, .int .i64 f, .int .i64 la, .int .i64 st] ∧ Below W2.heap.size W2 w1) u w := hg
      show (fun (v : Value) (w : World) => ∃ w1 : World, w = w1.setCells W1.heap.size 0 [.string n, .int .i64 k, .int .i64 l, .int .i64 m, .int .i64 f, .int .i64 la, .int .i64 st] ∧ Below W2.heap.size W2 w1) u w'
      dsimp only at hg ⊢
      replace hE : exB _ _ i 18 = false := hE
      replace hne : 18 ≠ i := hne
      unfold spR at hr
      split at hr
      all_goals first
        | exact absurd rfl hne
        | exact absurd (hE.symm.trans (by decide +kernel : exB _ _ _ _ = true)) (by decide)
        | (subst hr; exact hg)
        | (fail)
    · trivial
  · intro i w w' hF hI hr
    unfold spR at hr
    split at hr
    · exact absurd hF (by decide)
    · subst hr; exact hI
  · refine ⟨?_, ?_, ?_, ?_, ?_, ?_, ?_, ?_, ?_, ?_, ?_, ?_, ?_, ?_, ?_, ?_, ?_, ?_, ?_, trivial⟩
    · refine VC.plain rfl fun a wx hf => ?_
      have s0 := hf.old 0 (by rfl)
      have q0 := evalQ s0
      exact gives_value (by simp [go_sem, q0]) ⟨hf.c, rfl, rfl⟩
    · refine VC.plain rfl fun a wx hf => ?_
      have s1 := hf.old 1 (by rfl)
      have q1 := evalQ s1
      exact gives_value (by simp [go_sem, q1]) ⟨hf.c, rfl, rfl⟩
    · refine VC.plain rfl fun a wx hf => ?_
      have s2 := hf.old 2 (by rfl)
      have q2 := evalQ s2
      exact gives_value (by simp [go_sem, q2]) ⟨hf.c, rfl, rfl⟩
    · refine VC.plain rfl fun a wx hf => ?_
      obtain ⟨v9, g9, s9⟩ := hf.got 2 (by kernel_rfl) (by intro j hj; simp [eats] at hj) rfl rfl
      replace s9 := s9.trans (show v9 = .slice (some ⟨b, 0, none⟩) 5 5 from g9)
      clear g9
      have q9 := evalQ s9
      have hI := hf.start (by kernel_rfl)
      exact gives_value (by simp [go_sem, q9, Tryd.underlying48]) ⟨trivial, rfl, rfl⟩
    · refine VC.plain rfl fun a wx hf => ?_
      obtain ⟨v10, g10, s10⟩ := hf.got 3 (by kernel_rfl) (by intro j hj; simp [eats] at hj) rfl rfl
      replace s10 := s10.trans (show v10 = .pointer (some ⟨b, 0, none⟩) from g10)
      clear g10
      have q10 := evalQ s10
      have hI := hf.start (by kernel_rfl)
      exact gives_value (by simp [go_sem, q10, hI.cell (p := ⟨b, 0, none⟩) hbl, c0]) ⟨trivial, rfl, rfl⟩
    · refine VC.plain rfl fun a wx hf => ?_
      have s2 := hf.old 2 (by rfl)
      have q2 := evalQ s2
      exact gives_value (by simp [go_sem, q2]) ⟨hf.c, rfl, rfl⟩
    · refine VC.plain rfl fun a wx hf => ?_
      obtain ⟨v12, g12, s12⟩ := hf.got 5 (by kernel_rfl) (by intro j hj; simp [eats] at hj) rfl rfl
      replace s12 := s12.trans (show v12 = .slice (some ⟨b, 0, none⟩) 5 5 from g12)
      clear g12
      have q12 := evalQ s12
      have hI := hf.start (by kernel_rfl)
      exact gives_value (by simp [go_sem, q12, Tryd.underlying48]) ⟨trivial, rfl, rfl⟩
    · refine VC.plain rfl fun a wx hf => ?_
      obtain ⟨v13, g13, s13⟩ := hf.got 6 (by kernel_rfl) (by intro j hj; simp [eats] at hj) rfl rfl
      replace s13 := s13.trans (show v13 = .pointer (some ⟨b, 1, none⟩) from g13)
      clear g13
      have q13 := evalQ s13
      have hI := hf.start (by kernel_rfl)
      exact gives_value (by simp [go_sem, q13, hI.cell (p := ⟨b, 1, none⟩) hbl, c1]) ⟨trivial, rfl, rfl⟩
    · refine VC.plain rfl fun a wx hf => ?_
      have s2 := hf.old 2 (by rfl)
      have q2 := evalQ s2
      exact gives_value (by simp [go_sem, q2]) ⟨hf.c, rfl, rfl⟩
    · refine VC.plain rfl fun a wx hf => ?_
      obtain ⟨v15, g15, s15⟩ := hf.got 8 (by kernel_rfl) (by intro j hj; simp [eats] at hj) rfl rfl
      replace s15 := s15.trans (show v15 = .slice (some ⟨b, 0, none⟩) 5 5 from g15)
      clear g15
      have q15 := evalQ s15
      have hI := hf.start (by kernel_rfl)
      exact gives_value (by simp [go_sem, q15, Tryd.underlying48]) ⟨trivial, rfl, rfl⟩
    · refine VC.plain rfl fun a wx hf => ?_
      obtain ⟨v16, g16, s16⟩ := hf.got 9 (by kernel_rfl) (by intro j hj; simp [eats] at hj) rfl rfl
      replace s16 := s16.trans (show v16 = .pointer (some ⟨b, 2, none⟩) from g16)
      clear g16
      have q16 := evalQ s16
      have hI := hf.start (by kernel_rfl)
      exact gives_value (by simp [go_sem, q16, hI.cell (p := ⟨b, 2, none⟩) hbl, c2]) ⟨trivial, rfl, rfl⟩
    · refine VC.plain rfl fun a wx hf => ?_
      have s2 := hf.old 2 (by rfl)
      have q2 := evalQ s2
      exact gives_value (by simp [go_sem, q2]) ⟨hf.c, rfl, rfl⟩
    · refine VC.plain rfl fun a wx hf => ?_
      obtain ⟨v18, g18, s18⟩ := hf.got 11 (by kernel_rfl) (by intro j hj; simp [eats] at hj) rfl rfl
      replace s18 := s18.trans (show v18 = .slice (some ⟨b, 0, none⟩) 5 5 from g18)
      clear g18
      have q18 := evalQ s18
      have hI := hf.start (by kernel_rfl)
      exact gives_value (by simp [go_sem, q18, Tryd.underlying48]) ⟨trivial, rfl, rfl⟩
    · refine VC.plain rfl fun a wx hf => ?_
      obtain ⟨v19, g19, s19⟩ := hf.got 12 (by kernel_rfl) (by intro j hj; simp [eats] at hj) rfl rfl
      replace s19 := s19.trans (show v19 = .pointer (some ⟨b, 3, none⟩) from g19)
      clear g19
      have q19 := evalQ s19
      have hI := hf.start (by kernel_rfl)
      exact gives_value (by simp [go_sem, q19, hI.cell (p := ⟨b, 3, none⟩) hbl, c3]) ⟨trivial, rfl, rfl⟩
    · refine VC.plain rfl fun a wx hf => ?_
      have s2 := hf.old 2 (by rfl)
      have q2 := evalQ s2
      exact gives_value (by simp [go_sem, q2]) ⟨hf.c, rfl, rfl⟩
    · refine VC.plain rfl fun a wx hf => ?_
      obtain ⟨v21, g21, s21⟩ := hf.got 14 (by kernel_rfl) (by intro j hj; simp [eats] at hj) rfl rfl
      replace s21 := s21.trans (show v21 = .slice (some ⟨b, 0, none⟩) 5 5 from g21)
      clear g21
      have q21 := evalQ s21
      have hI := hf.start (by kernel_rfl)
      exact gives_value (by simp [go_sem, q21, Tryd.underlying48]) ⟨trivial, rfl, rfl⟩
    · refine VC.plain rfl fun a wx hf => ?_
      obtain ⟨v22, g22, s22⟩ := hf.got 15 (by kernel_rfl) (by intro j hj; simp [eats] at hj) rfl rfl
      replace s22 := s22.trans (show v22 = .pointer (some ⟨b, 4, none⟩) from g22)
      clear g22
      have q22 := evalQ s22
      have hI := hf.start (by kernel_rfl)
      exact gives_value (by simp [go_sem, q22, hI.cell (p := ⟨b, 4, none⟩) hbl, c4]) ⟨trivial, rfl, rfl⟩
    · refine VC.plain rfl fun a wx hf => ?_
      obtain ⟨v7, g7, s7⟩ := hf.got 0 (by kernel_rfl) (by intro j hj; simp [eats] at hj) rfl rfl
      replace s7 := s7.trans (show v7 = .string n from g7)
      clear g7
      have q7 := evalQ s7
      obtain ⟨v8, g8, s8⟩ := hf.got 1 (by kernel_rfl) (by intro j hj; simp [eats] at hj) rfl rfl
      replace s8 := s8.trans (show v8 = .int .i64 k from g8)
      clear g8
      have q8 := evalQ s8
      obtain ⟨v11, g11, s11⟩ := hf.got 4 (by kernel_rfl) (by intro j hj; simp [eats] at hj) rfl rfl
      replace s11 := s11.trans (show v11 = .int .i64 l from g11)
      clear g11
      have q11 := evalQ s11
      obtain ⟨v14, g14, s14⟩ := hf.got 7 (by kernel_rfl) (by intro j hj; simp [eats] at hj) rfl rfl
      replace s14 := s14.trans (show v14 = .int .i64 m from g14)
      clear g14
      have q14 := evalQ s14
      obtain ⟨v17, g17, s17⟩ := hf.got 10 (by kernel_rfl) (by intro j hj; simp [eats] at hj) rfl rfl
      replace s17 := s17.trans (show v17 = .int .i64 f from g17)
      clear g17
      have q17 := evalQ s17
      obtain ⟨v20, g20, s20⟩ := hf.got 13 (by kernel_rfl) (by intro j hj; simp [eats] at hj) rfl rfl
      replace s20 := s20.trans (show v20 = .int .i64 la from g20)
      clear g20
      have q20 := evalQ s20
      obtain ⟨v23, g23, s23⟩ := hf.got 16 (by kernel_rfl) (by intro j hj; simp [eats] at hj) rfl rfl
      replace s23 := s23.trans (show v23 = .int .i64 st from g23)
      clear g23
      have q23 := evalQ s23
      have hI := hf.start (by kernel_rfl)
      exact gives_value (by simp [go_sem, q7, q8, q11, q14, q17, q20, q23, Tryd.underlying26]) ⟨trivial, rfl, rfl⟩
    · refine VC.plain rfl fun a wx hf => ?_
      have s6 := hf.old 6 (by rfl)
      have q6 := evalQ s6
      obtain ⟨v24, g24, s24⟩ := hf.got 17 (by kernel_rfl) (by intro j hj; simp [eats] at hj) rfl rfl
      replace s24 := s24.trans (show v24 = .agg #[.string n, .int .i64 k, .int .i64 l, .int .i64 m, .int .i64 f, .int .i64 la, .int .i64 st] from g24)
      clear g24
      have q24 := evalQ s24
      have hI := hf.start (by kernel_rfl)
      exact gives_store_mid rfl s6 s24 (fun j hj => by have := ht j hj; rw [hI.cell (p := ⟨W1.heap.size, 0 + j, none⟩) hxl, hI.frozen (p := ⟨W1.heap.size, 0 + j, none⟩) hxl]; exact this) infoSpec (one7 _ _ _ _ _ _ _) ⟨trivial, trivial, wx, rfl, hI⟩
  · intro vs w5 hb hG
    obtain ⟨w6, e, g1⟩ := hG 18 (by decide) (by decide)
    clear hG
    subst e
    have ht6 : w6.there W1.heap.size 0 7 := fun j hj => by have := ht j hj; rw [g1.cell (p := ⟨W1.heap.size, 0 + j, none⟩) hxl, g1.frozen (p := ⟨W1.heap.size, 0 + j, none⟩) hxl]; exact this
    have hr6 := World.rangeAt_setCells_same (w := w6) (b := W1.heap.size) (o := 0) [.string n, .int .i64 k, .int .i64 l, .int .i64 m, .int .i64 f, .int .i64 la, .int .i64 st] ht6
    have hb6 : Below b W (w6.setCells W1.heap.size 0 [.string n, .int .i64 k, .int .i64 l, .int .i64 m, .int .i64 f, .int .i64 la, .int .i64 st]) := Below.setCells' hbw _ _ _ ((hb0.out.trans (hb2.mono hbw)).trans (g1.mono (Nat.le_of_lt hbl)))
    replace hr6 := Lib.hid hr6
    replace hb6 := Lib.hid hb6
    simp only [putFrom, Act.put, List.setIfInBounds_toArray, List.set_cons_zero, List.set_cons_succ]
    go_wp2
    exact bodyPost_ret (results_cell1 (v := .agg #[.string n, .int .i64 k, .int .i64 l, .int .i64 m, .int .i64 f, .int .i64 la, .int .i64 st]) rfl rfl (run_loadVar_mid (P := Tryd.prog) _ _ 0 26 _ _ hr6.out Tryd.underlying26 rfl infoSpec)) rfl ⟨rfl, hb6.out⟩
end Go.Proofs.YtdhojdkeidilfaaDoor
