/- The document's answer for layer 23: how it lies, and its calls. -/
import Derived.Test.YtlddjcfbapdjnaaNearC
import Derived.Test.YtlddjcfbapdjnaaGives
import Derived.Deep.DeepCutAuto
namespace Go.Proofs.Ytlddjcfbapdjnaa
open Go.RowKit

theorem eEntry : Elem Try.prog 68 91 7 88 := elem_of Try.underlying68 (by decide) (by decide) (by kernel_rfl)
theorem eTicket : Elem Try.prog 69 94 2 24 := elem_of Try.underlying69 (by decide) (by decide) (by kernel_rfl)
theorem ents_from (a : Option Addr) (n c l : Nat) (h : l ≤ n) (x : Int) (hx : x = l) (W : World) : (Instr.slice 68 (.slice a n c) (some (.int .i64 x)) none none).run Try.prog W = .ok (sliced a l n c 7) W := by
  subst hx
  have hz : (sizeOf (Try.prog.elem 68)).run Try.prog W = .ok 7 W := by kernel_rfl
  rw [run_slice_l W _ _ _ _ (by kernel_rfl) _ _ (by omega) (by omega), hz]; rfl
theorem ents_to (a : Option Addr) (n c l : Nat) (h : l ≤ c) (x : Int) (hx : x = l) (W : World) : (Instr.slice 68 (.slice a n c) none (some (.int .i64 x)) none).run Try.prog W = .ok (sliced a 0 l c 7) W := by
  subst hx
  have hz : (sizeOf (Try.prog.elem 68)).run Try.prog W = .ok 7 W := by kernel_rfl
  rw [run_slice_h W _ _ _ _ (by kernel_rfl) _ _ (by omega) (by omega), hz]; rfl
theorem Reads.part' {w : World} {size : Nat} {a : Option Addr} {n c : Nat} {xs : List Value} (hr : Reads w size (.slice a n c) n xs) {l h : Nat} (hl : l ≤ h) (hh : h ≤ n) (c' : Nat) :
    Reads w size (.slice (a.map (·.add (l * size))) (h - l) c') (h - l) ((xs.take (h * size)).drop (l * size)) := by
  have hlen := hr.len.2
  refine ⟨_, c', rfl, ?_, fun j u hj => ?_⟩
  · rw [List.length_drop, List.length_take, hlen, Nat.min_eq_left (Nat.mul_le_mul_right _ hh), Nat.sub_mul]
  · rw [List.getElem?_drop, List.getElem?_take] at hj
    split at hj
    · rename_i hlt
      obtain ⟨b, o, rfl, hc⟩ := hr.at (j := l * size + j) (by rw [hlen]; exact Nat.lt_of_lt_of_le hlt (Nat.mul_le_mul_right _ hh))
      have h1 := hc _ _ hj
      by_cases h0 : l * size = 0
      · exact ⟨b, o, by simp [Addr.add, h0], by rw [h0, Nat.zero_add] at h1; exact h1⟩
      · exact ⟨b, o + l * size, by simp [Addr.add, h0], by rw [Nat.add_assoc]; exact h1⟩
    · cases hj
/-- A slice of a slice: what it is, and what it reads. -/
theorem sliced_reads {w : World} {size : Nat} {a : Option Addr} {n c : Nat} {xs : List Value} (hr : Reads w size (.slice a n c) n xs) (ha : a = none → c = 0) {l h : Nat} (hl : l ≤ h) (hh : h ≤ n) (hn : n ≤ c) :
    ∃ a' c', sliced a l h c size = .slice a' (h - l) c' ∧ Reads w size (.slice a' (h - l) c') (h - l) ((xs.take (h * size)).drop (l * size)) ∧ (a' = none → c' = 0) := by
  refine ⟨_, _, rfl, ?_, ?_⟩
  · by_cases hcl : c = l
    · rw [if_pos hcl]
      have h0 : h - l = 0 := by omega
      have hx : (xs.take (h * size)).drop (l * size) = [] := List.length_eq_zero_iff.1 (by rw [List.length_drop, List.length_take, show h = l by omega]; omega)
      rw [h0, hx]; exact Reads.nil _ _ _ _
    · rw [if_neg hcl]; exact hr.part' hl hh _
  · intro e
    by_cases hcl : c = l
    · omega
    · rw [if_neg hcl] at e
      have : a = none := by cases a <;> simp_all
      have := ha this; omega
theorem one_take {xs : List Value} (h : xs.all (fun u => u.oneCell') = true) (n : Nat) : (xs.take n).all (fun u => u.oneCell') = true := List.all_eq_true.2 fun u hu => List.all_eq_true.1 h u (List.mem_of_mem_take hu)
theorem one_drop {xs : List Value} (h : xs.all (fun u => u.oneCell') = true) (n : Nat) : (xs.drop n).all (fun u => u.oneCell') = true := List.all_eq_true.2 fun u hu => List.all_eq_true.1 h u (List.mem_of_mem_drop hu)

/-- What holds between two worlds at an operation of 'without'. -/
def woR (B : Nat) (i : Nat) (w w' : World) : Prop := match i with
  | 1 => Below w.heap.size w w'
  | 8 => Below B w w'
  | 16 => Below B w w'
  | 19 => True
  | _ => w' = w
set_option maxRecDepth 100000 in
set_option maxHeartbeats 3200000 in
theorem without_row {W : World} {r ne ce : Nat} {ae : Option Addr} {xs : List Value} (hrow : W.ownsRow (r + 1) 91 7 (.slice ae ne ce) ne xs) (hc0 : W.cell? ⟨r, 0, none⟩ = some (.slice ae ne ce)) (hz0 : W.frozen? ⟨r, 0, none⟩ = false) (hrl : r < W.heap.size)
    (hone : xs.all (fun u => u.oneCell') = true) (at' : Nat) (hat : at' < ne) (hne : ne < 1000000) :
    Calls Try.prog 54 #[P0 r, .int .i64 at'] W fun e w' => ∃ (v : Value) (w1 : World), e = .returned (.tuple #[]) ∧ w' = w1.setCell ⟨r, 0, none⟩ v ∧ Below W.heap.size W w1 ∧
      w1.ownsRow (r + 1) 91 7 v (ne - 1) (xs.take (at' * 7) ++ xs.drop ((at' + 1) * 7)) ∧ ∀ k, v.ownBlock = some k → W.heap.size ≤ k := by
  have hrd := Reads.of_owns hrow
  have hcap : ne ≤ ce ∧ (ae = none → ce = 0) := by
    obtain ⟨_, h | ⟨g, cap, cur, h, _, _, h1, _⟩⟩ := hrow
    · cases h.1; simp
    · cases h; exact ⟨h1, fun h => by cases h⟩
  obtain ⟨a1, c1, e1, hr1, hn1⟩ := sliced_reads hrd hcap.2 (Nat.zero_le at') (by omega) hcap.1
  obtain ⟨a2, c2, e2, hr2, hn2⟩ := sliced_reads hrd hcap.2 (l := at' + 1) (h := ne) (by omega) (Nat.le_refl _) hcap.1
  have hcut1 := fun w => (ents_to ae ne ce at' (by omega) at' rfl w).trans (by rw [e1])
  have hcut2 := fun w => (ents_from ae ne ce (at' + 1) (by omega) ((at' : Int) + 1) (by omega) w).trans (by rw [e2])
  rw [Nat.zero_mul, List.drop_zero, Nat.sub_zero] at hr1
  rw [Nat.sub_zero] at hcut1
  rw [List.take_of_length_le (by rw [hrd.len.2]; exact Nat.le_refl _)] at hr2
  have hwr : IntKind.i64.wrap ((at' : Int) + 1) = (at' : Int) + 1 := IntWalk.i64_in _ (by omega)
  replace hrow := Lib.hid hrow
  replace hrd := Lib.hid hrd
  go_enter Try.func54, Try.ntmps54
  go_wp2_with fail
  refine wp_region_rely (l := [_, _, _, _, _, _, _, _, _, _, _, _, _, _, _, _, _, _, _, _]) (fun _ => True) (Below W.heap.size W) (woR W.heap.size) (fun k => ([fun v _ => v = P0 r, fun v w => w.ownsRow (r + 1) 91 7 v 0 [] ∧ ∀ k, v.ownBlock = some k → W.heap.size ≤ k, fun v _ => v = P0 r, fun v _ => v = P0 r, fun v _ => v = P0 r, fun v _ => v = .slice ae ne ce, fun v _ => v = .int .i64 (at' : Int), fun v _ => v = .slice a1 at' c1, fun v w => w.ownsRow (r + 1) 91 7 v at' (xs.take (at' * 7)) ∧ ∀ k, v.ownBlock = some k → W.heap.size ≤ k, fun v _ => v = P0 r, fun v _ => v = P0 r, fun v _ => v = P0 r, fun v _ => v = .slice ae ne ce, fun v _ => v = .int .i64 (at' : Int), fun v _ => v = .int .i64 ((at' : Int) + 1), fun v _ => v = .slice a2 (ne - (at' + 1)) c2, fun v w => w.ownsRow (r + 1) 91 7 v (at' + (ne - (at' + 1))) (xs.take (at' * 7) ++ xs.drop ((at' + 1) * 7)) ∧ ∀ k, v.ownBlock = some k → W.heap.size ≤ k, fun v _ => v = P0 r, fun v _ => v = P0 r, fun v w => ∃ (v1 : Value) (w1 : World), w = w1.setCell ⟨r, 0, none⟩ v1 ∧ Below W.heap.size W w1 ∧ w1.ownsRow (r + 1) 91 7 v1 (at' + (ne - (at' + 1))) (xs.take (at' * 7) ++ xs.drop ((at' + 1) * 7)) ∧ ∀ k, v1.ownBlock = some k → W.heap.size ≤ k] : List (Value → World → Prop)).getD k (fun _ _ => True)) (eats [(8, 1), (16, 8), (19, 16)]) (isIn [19]) (by kernel_rfl) (by kernel_rfl) (by kernel_rfl) trivial ((Below.refl _ _).drew) ?_ ?_ ?_ ?_
  · intro i k u w w' hne hE hg hr
    rcases k with _ | _ | _ | _ | _ | _ | _ | _ | _ | _ | _ | _ | _ | _ | _ | _ | _ | _ | _ | _ | k
    · exact hg
    · replace hg : (fun (v : Value) (w : World) => w.ownsRow (r + 1) 91 7 v 0 [] ∧ ∀ k, v.ownBlock = some k → W.heap.size ≤ k) u w := hg
      show (fun (v : Value) (w : World) => w.ownsRow (r + 1) 91 7 v 0 [] ∧ ∀ k, v.ownBlock = some k → W.heap.size ≤ k) u w'
      dsimp only at hg ⊢
      replace hE : exB _ _ i 1 = false := hE
      replace hne : 1 ≠ i := hne
      unfold woR at hr
      split at hr
      · exact absurd rfl hne
      · exact absurd (hE.symm.trans (by kernel_rfl : exB _ _ 8 1 = true)) (by decide)
      · exact absurd (hE.symm.trans (by kernel_rfl : exB _ _ 16 1 = true)) (by decide)
      · exact absurd (hE.symm.trans (by kernel_rfl : exB _ _ 19 1 = true)) (by decide)
      · subst hr; exact hg
    · exact hg
    · exact hg
    · exact hg
    · exact hg
    · exact hg
    · exact hg
    · replace hg : (fun (v : Value) (w : World) => w.ownsRow (r + 1) 91 7 v at' (xs.take (at' * 7)) ∧ ∀ k, v.ownBlock = some k → W.heap.size ≤ k) u w := hg
      show (fun (v : Value) (w : World) => w.ownsRow (r + 1) 91 7 v at' (xs.take (at' * 7)) ∧ ∀ k, v.ownBlock = some k → W.heap.size ≤ k) u w'
      dsimp only at hg ⊢
      replace hE : exB _ _ i 8 = false := hE
      replace hne : 8 ≠ i := hne
      unfold woR at hr
      split at hr
      · exact ⟨owns_fr hg.1 (Fr.of_below hr) (fun k hk => by have := (owns_block hg.1 k hk).2; omega), hg.2⟩
      · exact absurd rfl hne
      · exact absurd (hE.symm.trans (by kernel_rfl : exB _ _ 16 8 = true)) (by decide)
      · exact absurd (hE.symm.trans (by kernel_rfl : exB _ _ 19 8 = true)) (by decide)
      · subst hr; exact hg
    · exact hg
    · exact hg
    · exact hg
    · exact hg
    · exact hg
    · exact hg
    · exact hg
    · replace hg : (fun (v : Value) (w : World) => w.ownsRow (r + 1) 91 7 v (at' + (ne - (at' + 1))) (xs.take (at' * 7) ++ xs.drop ((at' + 1) * 7)) ∧ ∀ k, v.ownBlock = some k → W.heap.size ≤ k) u w := hg
      show (fun (v : Value) (w : World) => w.ownsRow (r + 1) 91 7 v (at' + (ne - (at' + 1))) (xs.take (at' * 7) ++ xs.drop ((at' + 1) * 7)) ∧ ∀ k, v.ownBlock = some k → W.heap.size ≤ k) u w'
      dsimp only at hg ⊢
      replace hE : exB _ _ i 16 = false := hE
      replace hne : 16 ≠ i := hne
      unfold woR at hr
      split at hr
      · exact ⟨owns_fr hg.1 (Fr.of_below hr) (fun k hk => by have := (owns_block hg.1 k hk).2; omega), hg.2⟩
      · exact absurd (hE.symm.trans (by kernel_rfl : exB _ _ 8 16 = true)) (by decide)
      · exact absurd rfl hne
      · exact absurd (hE.symm.trans (by kernel_rfl : exB _ _ 19 16 = true)) (by decide)
      · subst hr; exact hg
    · exact hg
    · exact hg
    · replace hg : (fun (v : Value) (w : World) => ∃ (v1 : Value) (w1 : World), w = w1.setCell ⟨r, 0, none⟩ v1 ∧ Below W.heap.size W w1 ∧ w1.ownsRow (r + 1) 91 7 v1 (at' + (ne - (at' + 1))) (xs.take (at' * 7) ++ xs.drop ((at' + 1) * 7)) ∧ ∀ k, v1.ownBlock = some k → W.heap.size ≤ k) u w := hg
      show (fun (v : Value) (w : World) => ∃ (v1 : Value) (w1 : World), w = w1.setCell ⟨r, 0, none⟩ v1 ∧ Below W.heap.size W w1 ∧ w1.ownsRow (r + 1) 91 7 v1 (at' + (ne - (at' + 1))) (xs.take (at' * 7) ++ xs.drop ((at' + 1) * 7)) ∧ ∀ k, v1.ownBlock = some k → W.heap.size ≤ k) u w'
      dsimp only at hg ⊢
      replace hE : exB _ _ i 19 = false := hE
      replace hne : 19 ≠ i := hne
      unfold woR at hr
      split at hr
      · exact absurd (hE.symm.trans (by kernel_rfl : exB _ _ 1 19 = true)) (by decide)
      · exact absurd (hE.symm.trans (by kernel_rfl : exB _ _ 8 19 = true)) (by decide)
      · exact absurd (hE.symm.trans (by kernel_rfl : exB _ _ 16 19 = true)) (by decide)
      · exact absurd rfl hne
      · subst hr; exact hg
    · trivial
  · intro i w w' hF hI hr
    unfold woR at hr
    split at hr
    · exact hI.trans (hr.mono hI.size)
    · exact hI.trans hr
    · exact hI.trans hr
    · exact absurd hF (by decide)
    · subst hr; exact hI
  · refine ⟨?_, ?_, ?_, ?_, ?_, ?_, ?_, ?_, ?_, ?_, ?_, ?_, ?_, ?_, ?_, ?_, ?_, ?_, ?_, ?_, trivial⟩
    · refine VC.plain rfl fun a wx hf => ?_
      have s0 := hf.old 0 (by rfl)
      have q0 := evalQ s0
      exact gives_value (by simp [go_sem, q0, hwr]) ⟨hf.c, rfl, rfl⟩
    · refine VC.plain rfl fun a wx hf => ?_
      have hI := hf.start (by kernel_rfl)
      exact gives_value (u := .slice (some ⟨wx.heap.size, 0, none⟩) 0 0) (w' := wx.alloc (.cells #[] 91)) (by simp [go_sem, Try.underlying68]) ⟨trivial, (Below.refl _ _).alloc (Nat.le_refl _) _, owns_mono (owns_empty wx 91 7) (by have := hI.size; omega), fun k hk => by cases hk; exact hI.size⟩
    · refine VC.plain rfl fun a wx hf => ?_
      have s0 := hf.old 0 (by rfl)
      have q0 := evalQ s0
      exact gives_value (by simp [go_sem, q0, hwr]) ⟨hf.c, rfl, rfl⟩
    · refine VC.plain rfl fun a wx hf => ?_
      obtain ⟨v6, g6, s6⟩ := hf.got 2 (by kernel_rfl) (by intro j hj; simp [eats] at hj) rfl rfl
      replace s6 := s6.trans (show v6 = P0 r from g6)
      clear g6
      have q6 := evalQ s6
      exact gives_value (by simp [go_sem, q6, hwr]) ⟨hf.c, rfl, rfl⟩
    · refine VC.plain rfl fun a wx hf => ?_
      obtain ⟨v7, g7, s7⟩ := hf.got 3 (by kernel_rfl) (by intro j hj; simp [eats] at hj) rfl rfl
      replace s7 := s7.trans (show v7 = P0 r from g7)
      clear g7
      have q7 := evalQ s7
      exact gives_value (by simp [go_sem, q7, hwr]) ⟨hf.c, rfl, rfl⟩
    · refine VC.plain rfl fun a wx hf => ?_
      obtain ⟨v8, g8, s8⟩ := hf.got 4 (by kernel_rfl) (by intro j hj; simp [eats] at hj) rfl rfl
      replace s8 := s8.trans (show v8 = P0 r from g8)
      clear g8
      have q8 := evalQ s8
      have hI := hf.start (by kernel_rfl)
      exact gives_value (by simp [go_sem, q8, hI.cell (p := ⟨r, 0, none⟩) hrl, hc0]) ⟨trivial, rfl, rfl⟩
    · refine VC.plain rfl fun a wx hf => ?_
      have s1 := hf.old 1 (by rfl)
      have q1 := evalQ s1
      exact gives_value (by simp [go_sem, q1, hwr]) ⟨hf.c, rfl, rfl⟩
    · refine VC.plain rfl fun a wx hf => ?_
      obtain ⟨v9, g9, s9⟩ := hf.got 5 (by kernel_rfl) (by intro j hj; simp [eats] at hj) rfl rfl
      replace s9 := s9.trans (show v9 = .slice ae ne ce from g9)
      clear g9
      have q9 := evalQ s9
      obtain ⟨v10, g10, s10⟩ := hf.got 6 (by kernel_rfl) (by intro j hj; simp [eats] at hj) rfl rfl
      replace s10 := s10.trans (show v10 = .int .i64 (at' : Int) from g10)
      clear g10
      have q10 := evalQ s10
      have hI := hf.start (by kernel_rfl)
      exact gives_value (by simp [go_sem, q9, q10, hcut1, Try.underlying68]) ⟨trivial, rfl, rfl⟩
    · refine VC.plain rfl fun a wx hf => ?_
      obtain ⟨v5, g5, s5⟩ := hf.got 1 (by kernel_rfl) (by intro j hj; simp [eats] at hj; omega) rfl rfl
      have q5 := evalQ s5
      replace g5 : (fun (v : Value) (w : World) => w.ownsRow (r + 1) 91 7 v 0 [] ∧ ∀ k, v.ownBlock = some k → W.heap.size ≤ k) v5 wx := g5
      dsimp only at g5
      obtain ⟨v11, g11, s11⟩ := hf.got 7 (by kernel_rfl) (by intro j hj; simp [eats] at hj) rfl rfl
      replace s11 := s11.trans (show v11 = .slice a1 at' c1 from g11)
      clear g11
      have q11 := evalQ s11
      have hI := hf.start (by kernel_rfl)
      refine gives_append rfl eEntry s5 g5.1 s11 (hr1.below hI) hn1 (one_take hone _) (by omega) (by have := hI.size; omega) (fun v' w' h1 h2 h3 => ?_)
      have hb : Below W.heap.size wx w' := h2.below hI.size (fun i hi e => by have := g5.2 i e; omega)
      refine ⟨trivial, hb, ?_, fun k hk => ?_⟩
      · simpa using h1
      · rcases h3 k hk with h | h
        · exact g5.2 k h
        · exact Nat.le_trans hI.size h
    · refine VC.plain rfl fun a wx hf => ?_
      have s0 := hf.old 0 (by rfl)
      have q0 := evalQ s0
      exact gives_value (by simp [go_sem, q0, hwr]) ⟨hf.c, rfl, rfl⟩
    · refine VC.plain rfl fun a wx hf => ?_
      obtain ⟨v13, g13, s13⟩ := hf.got 9 (by kernel_rfl) (by intro j hj; simp [eats] at hj) rfl rfl
      replace s13 := s13.trans (show v13 = P0 r from g13)
      clear g13
      have q13 := evalQ s13
      exact gives_value (by simp [go_sem, q13, hwr]) ⟨hf.c, rfl, rfl⟩
    · refine VC.plain rfl fun a wx hf => ?_
      obtain ⟨v14, g14, s14⟩ := hf.got 10 (by kernel_rfl) (by intro j hj; simp [eats] at hj) rfl rfl
      replace s14 := s14.trans (show v14 = P0 r from g14)
      clear g14
      have q14 := evalQ s14
      exact gives_value (by simp [go_sem, q14, hwr]) ⟨hf.c, rfl, rfl⟩
    · refine VC.plain rfl fun a wx hf => ?_
      obtain ⟨v15, g15, s15⟩ := hf.got 11 (by kernel_rfl) (by intro j hj; simp [eats] at hj) rfl rfl
      replace s15 := s15.trans (show v15 = P0 r from g15)
      clear g15
      have q15 := evalQ s15
      have hI := hf.start (by kernel_rfl)
      exact gives_value (by simp [go_sem, q15, hI.cell (p := ⟨r, 0, none⟩) hrl, hc0]) ⟨trivial, rfl, rfl⟩
    · refine VC.plain rfl fun a wx hf => ?_
      have s1 := hf.old 1 (by rfl)
      have q1 := evalQ s1
      exact gives_value (by simp [go_sem, q1, hwr]) ⟨hf.c, rfl, rfl⟩
    · refine VC.plain rfl fun a wx hf => ?_
      obtain ⟨v17, g17, s17⟩ := hf.got 13 (by kernel_rfl) (by intro j hj; simp [eats] at hj) rfl rfl
      replace s17 := s17.trans (show v17 = .int .i64 (at' : Int) from g17)
      clear g17
      have q17 := evalQ s17
      exact gives_value (by simp [go_sem, q17, hwr]) ⟨hf.c, rfl, rfl⟩
    · refine VC.plain rfl fun a wx hf => ?_
      obtain ⟨v16, g16, s16⟩ := hf.got 12 (by kernel_rfl) (by intro j hj; simp [eats] at hj) rfl rfl
      replace s16 := s16.trans (show v16 = .slice ae ne ce from g16)
      clear g16
      have q16 := evalQ s16
      obtain ⟨v18, g18, s18⟩ := hf.got 14 (by kernel_rfl) (by intro j hj; simp [eats] at hj) rfl rfl
      replace s18 := s18.trans (show v18 = .int .i64 ((at' : Int) + 1) from g18)
      clear g18
      have q18 := evalQ s18
      have hI := hf.start (by kernel_rfl)
      exact gives_value (by simp [go_sem, q16, q18, hcut2, Try.underlying68]) ⟨trivial, rfl, rfl⟩
    · refine VC.plain rfl fun a wx hf => ?_
      obtain ⟨v12, g12, s12⟩ := hf.got 8 (by kernel_rfl) (by intro j hj; simp [eats] at hj; omega) rfl rfl
      have q12 := evalQ s12
      replace g12 : (fun (v : Value) (w : World) => w.ownsRow (r + 1) 91 7 v at' (xs.take (at' * 7)) ∧ ∀ k, v.ownBlock = some k → W.heap.size ≤ k) v12 wx := g12
      dsimp only at g12
      obtain ⟨v19, g19, s19⟩ := hf.got 15 (by kernel_rfl) (by intro j hj; simp [eats] at hj) rfl rfl
      replace s19 := s19.trans (show v19 = .slice a2 (ne - (at' + 1)) c2 from g19)
      clear g19
      have q19 := evalQ s19
      have hI := hf.start (by kernel_rfl)
      refine gives_append rfl eEntry s12 g12.1 s19 (hr2.below hI) hn2 (one_drop hone _) (by omega) (by have := hI.size; omega) (fun v' w' h1 h2 h3 => ?_)
      have hb : Below W.heap.size wx w' := h2.below hI.size (fun i hi e => by have := g12.2 i e; omega)
      refine ⟨trivial, hb, h1, fun k hk => ?_⟩
      rcases h3 k hk with h | h
      · exact g12.2 k h
      · exact Nat.le_trans hI.size h
    · refine VC.plain rfl fun a wx hf => ?_
      obtain ⟨v4, g4, s4⟩ := hf.got 0 (by kernel_rfl) (by intro j hj; simp [eats] at hj) rfl rfl
      replace s4 := s4.trans (show v4 = P0 r from g4)
      clear g4
      have q4 := evalQ s4
      exact gives_value (by simp [go_sem, q4, hwr]) ⟨hf.c, rfl, rfl⟩
    · refine VC.plain rfl fun a wx hf => ?_
      obtain ⟨v21, g21, s21⟩ := hf.got 17 (by kernel_rfl) (by intro j hj; simp [eats] at hj) rfl rfl
      replace s21 := s21.trans (show v21 = P0 r from g21)
      clear g21
      have q21 := evalQ s21
      exact gives_value (by simp [go_sem, q21, hwr]) ⟨hf.c, rfl, rfl⟩
    · refine VC.plain rfl fun a wx hf => ?_
      obtain ⟨v22, g22, s22⟩ := hf.got 18 (by kernel_rfl) (by intro j hj; simp [eats] at hj) rfl rfl
      replace s22 := s22.trans (show v22 = P0 r from g22)
      clear g22
      have q22 := evalQ s22
      obtain ⟨v20, g20, s20⟩ := hf.got 16 (by kernel_rfl) (by intro j hj; simp [eats] at hj; omega) rfl rfl
      have q20 := evalQ s20
      replace g20 : (fun (v : Value) (w : World) => w.ownsRow (r + 1) 91 7 v (at' + (ne - (at' + 1))) (xs.take (at' * 7) ++ xs.drop ((at' + 1) * 7)) ∧ ∀ k, v.ownBlock = some k → W.heap.size ≤ k) v20 wx := g20
      dsimp only at g20
      have hI := hf.start (by kernel_rfl)
      obtain ⟨a20, c20, rfl⟩ := (Reads.of_owns g20.1).shape
      exact gives_skip (w' := wx.setCell ⟨r, 0, none⟩ _) (by simp [go_sem, q20, q22, hI.cell (p := ⟨r, 0, none⟩) hrl, hI.frozen (p := ⟨r, 0, none⟩) hrl, hc0, hz0]) ⟨trivial, trivial, _, wx, rfl, hI, g20.1, g20.2⟩
  · intro vs w1 hb hG
    obtain ⟨v1, w2, e, h1, h2, h3⟩ : (fun (v : Value) (w : World) => ∃ (v1 : Value) (w1 : World), w = w1.setCell ⟨r, 0, none⟩ v1 ∧ Below W.heap.size W w1 ∧ w1.ownsRow (r + 1) 91 7 v1 (at' + (ne - (at' + 1))) (xs.take (at' * 7) ++ xs.drop ((at' + 1) * 7)) ∧ ∀ k, v1.ownBlock = some k → W.heap.size ≤ k) (vs 19) w1 := hG 19 (by decide) (by decide)
    clear hG hwr hcut1 hcut2
    rw [show at' + (ne - (at' + 1)) = ne - 1 by omega] at h2
    exact bodyPost_end (v := .tuple #[]) (results_none rfl _ _ _) (by rw [putFrom_defers]) ⟨v1, w2, rfl, e, h1, h2, h3⟩

/-! ### how it lies -/
/-- Entries' cells: a key, and a value; what the values' lists hold is read by c. -/
def EL (c : Addr → Option Value) (css : List (List Value)) (es : List (ByteArray × V)) : Prop :=
  css.length = es.length ∧ ∀ (j : Nat) (x : List Value) (p : ByteArray × V), css[j]? = some x → es[j]? = some p → ∃ cs, x = .string p.1 :: cs ∧ RV c cs p.2
theorem EL.nil (c : Addr → Option Value) : EL c [] [] := ⟨rfl, fun j x p h => by simp at h⟩
theorem EL.snoc {c : Addr → Option Value} {css : List (List Value)} {es : List (ByteArray × V)} (h : EL c css es) {cs : List Value} {k : ByteArray} {v : V} (hv : RV c cs v) : EL c (css ++ [.string k :: cs]) (es ++ [(k, v)]) := by
  refine ⟨by simp [h.1], fun j x p h1 h2 => ?_⟩
  have hl := h.1
  by_cases hj : j < css.length
  · rw [List.getElem?_append_left hj] at h1
    rw [List.getElem?_append_left (by omega)] at h2
    exact h.2 j x p h1 h2
  · rw [List.getElem?_append_right (by omega)] at h1 h2
    have e1 : j - css.length = 0 := by
      rcases Nat.eq_zero_or_pos (j - css.length) with h | h
      · exact h
      · rw [List.getElem?_eq_none (by simp; omega)] at h1; cases h1
    rw [e1] at h1
    rw [show j - es.length = 0 by omega] at h2
    simp at h1 h2
    subst h1; subst h2
    exact ⟨cs, rfl, hv⟩
theorem EL.erase {c : Addr → Option Value} {css : List (List Value)} {es : List (ByteArray × V)} (h : EL c css es) (i : Nat) : EL c (css.eraseIdx i) (es.eraseIdx i) := by
  refine ⟨by rw [List.length_eraseIdx, List.length_eraseIdx, h.1], fun j x p h1 h2 => ?_⟩
  rw [List.getElem?_eraseIdx] at h1 h2
  split at h1 <;> rename_i hj
  · rw [if_pos hj] at h2; exact h.2 _ _ _ h1 h2
  · rw [if_neg hj] at h2; exact h.2 _ _ _ h1 h2
theorem EL.len7 {c : Addr → Option Value} {css : List (List Value)} {es : List (ByteArray × V)} (h : EL c css es) : ∀ x ∈ css, x.length = 7 := by
  intro x hx
  obtain ⟨j, hj, rfl⟩ := List.getElem_of_mem hx
  have hj' : j < es.length := h.1 ▸ hj
  obtain ⟨cs, e, hr⟩ := h.2 j css[j] es[j] (by simp [hj]) (by simp [hj'])
  rw [e, List.length_cons, hr.len6]
theorem cells6_one (k : Int) (t : ByteArray) (i : Int) (r : Nat) (f : Bool) (a : Option Addr) (n cap : Nat) : (cells6 k t i r f a n cap).all (fun u => u.oneCell') = true := by simp [cells6, Value.oneCell']
theorem EL.one {c : Addr → Option Value} {css : List (List Value)} {es : List (ByteArray × V)} (h : EL c css es) : css.flatten.all (fun u => u.oneCell') = true := by
  refine List.all_eq_true.2 fun u hu => ?_
  obtain ⟨x, hx, hux⟩ := List.mem_flatten.1 hu
  obtain ⟨j, hj, rfl⟩ := List.getElem_of_mem hx
  have hj' : j < es.length := h.1 ▸ hj
  obtain ⟨cs, e, hr⟩ := h.2 j css[j] es[j] (by simp [hj]) (by simp [hj'])
  obtain ⟨a, cap, css', e', _⟩ := hr.out
  rw [e] at hux
  rcases List.mem_cons.1 hux with rfl | hux
  · rfl
  · rw [e'] at hux; exact List.all_eq_true.1 (cells6_one ..) u hux
theorem flatten_take {size : Nat} : ∀ {css : List (List Value)} (_ : ∀ x ∈ css, x.length = size) (i : Nat), (css.take i).flatten = css.flatten.take (i * size)
  | [], _, i => by simp
  | x :: css, h, 0 => by simp
  | x :: css, h, i + 1 => by
    have hx := h x (by simp)
    rw [List.take_succ_cons, List.flatten_cons, List.flatten_cons, flatten_take (fun y hy => h y (List.mem_cons_of_mem _ hy)) i, Nat.succ_mul, List.take_append, List.take_of_length_le (l := x) (by rw [hx]; omega), hx, Nat.add_sub_cancel]
theorem flatten_drop {size : Nat} : ∀ {css : List (List Value)} (_ : ∀ x ∈ css, x.length = size) (i : Nat), (css.drop i).flatten = css.flatten.drop (i * size)
  | [], _, i => by simp
  | x :: css, h, 0 => by simp
  | x :: css, h, i + 1 => by
    have hx := h x (by simp)
    rw [List.drop_succ_cons, List.flatten_cons, flatten_drop (fun y hy => h y (List.mem_cons_of_mem _ hy)) i, Nat.succ_mul, List.drop_append, show List.drop (i * size + size) x = [] from List.drop_of_length_le (by rw [hx]; omega), List.nil_append, hx, Nat.add_sub_cancel]
theorem EL.flat_erase {c : Addr → Option Value} {css : List (List Value)} {es : List (ByteArray × V)} (h : EL c css es) (i : Nat) : (css.eraseIdx i).flatten = css.flatten.take (i * 7) ++ css.flatten.drop ((i + 1) * 7) := by
  rw [List.eraseIdx_eq_take_drop_succ, List.flatten_append, flatten_take h.len7, flatten_drop h.len7]
/-- One entry as it lies. -/
theorem EL.elem {c : Addr → Option Value} {css : List (List Value)} {es : List (ByteArray × V)} (h : EL c css es) {w : World} {base g cap n : Nat} {t : TypeId} (hn : n = es.length) (ho : w.ownsRow base t 7 (.slice (some ⟨g, 0, none⟩) n cap) n css.flatten) {j : Nat} (hj : j < es.length) :
    ∃ (a : Option Addr) (cap' : Nat), RV c (cells6 es[j].2.kind es[j].2.text es[j].2.int es[j].2.real es[j].2.flag a es[j].2.list.length cap') es[j].2 ∧ w.cell? ⟨g, j * 7, none⟩ = some (.string es[j].1) ∧ w.cell? ⟨g, j * 7 + 1, none⟩ = some (.int .i64 es[j].2.kind) ∧ w.cell? ⟨g, j * 7 + 2, none⟩ = some (.string es[j].2.text) ∧
      w.cell? ⟨g, j * 7 + 3, none⟩ = some (.int .i64 es[j].2.int) ∧ w.cell? ⟨g, j * 7 + 4, none⟩ = some (.float .f64 es[j].2.real) ∧ w.cell? ⟨g, j * 7 + 5, none⟩ = some (.bool es[j].2.flag) ∧ w.cell? ⟨g, j * 7 + 6, none⟩ = some (.slice a es[j].2.list.length cap') := by
  have hl := h.1
  have hjc : j < css.length := by omega
  obtain ⟨cs, e, hr⟩ := h.2 j css[j] es[j] (by simp [hjc]) (by simp [hj])
  obtain ⟨a, cap', css', e', h1, h2, h3⟩ := hr.out
  have hat : ∀ q u, css[j][q]? = some u → w.cell? ⟨g, j * 7 + q, none⟩ = some u := fun q u hq => by
    have hfl := flat_at h.len7 j css[j] (by simp [hjc]) q u hq
    obtain ⟨b, o, hb, hc⟩ := (Reads.of_owns ho).at (j := j * 7 + q) (by exact (List.getElem?_eq_some_iff.1 hfl).1)
    cases hb
    have := hc _ _ hfl
    rwa [Nat.zero_add] at this
  rw [e, e'] at hat
  exact ⟨a, cap', RV.intro a cap' css' h1 h2 h3, hat 0 _ rfl, hat 1 _ rfl, hat 2 _ rfl, hat 3 _ rfl, hat 4 _ rfl, hat 5 _ rfl, hat 6 _ rfl⟩

def tcells (ts : List (Int × ByteArray)) : List Value := ts.flatMap fun p => [.int .i64 p.1, .string p.2]
theorem tcells_snoc (ts : List (Int × ByteArray)) (p : Int × ByteArray) : tcells (ts ++ [p]) = tcells ts ++ [.int .i64 p.1, .string p.2] := by simp [tcells]
theorem tcells_len : ∀ ts : List (Int × ByteArray), (tcells ts).length = ts.length * 2
  | [] => rfl
  | p :: ts => by have := tcells_len ts; simp only [tcells, List.flatMap_cons, List.length_append, List.length_cons, List.length_nil] at this ⊢; omega
theorem tcells_at : ∀ {ts : List (Int × ByteArray)} {j : Nat} (hj : j < ts.length), (tcells ts)[j * 2]? = some (.int .i64 ts[j].1) ∧ (tcells ts)[j * 2 + 1]? = some (.string ts[j].2)
  | [], j, hj => by simp at hj
  | p :: ts, 0, hj => by simp [tcells]
  | p :: ts, j + 1, hj => by
    have := tcells_at (ts := ts) (j := j) (by simpa using hj)
    have e : tcells (p :: ts) = .int .i64 p.1 :: .string p.2 :: tcells ts := by simp [tcells]
    rw [e, show (j + 1) * 2 = j * 2 + 1 + 1 by omega]
    simpa using this
theorem tcells_one (ts : List (Int × ByteArray)) : (tcells ts).all (fun u => u.oneCell') = true := by simp [tcells, Value.oneCell']
theorem tick_elem {ts : List (Int × ByteArray)} {w : World} {base g cap n : Nat} {t : TypeId} (ho : w.ownsRow base t 2 (.slice (some ⟨g, 0, none⟩) n cap) n (tcells ts)) {j : Nat} (hj : j < ts.length) :
    w.cell? ⟨g, j * 2, none⟩ = some (.int .i64 ts[j].1) ∧ w.cell? ⟨g, j * 2 + 1, none⟩ = some (.string ts[j].2) := by
  have hl := tcells_len ts
  obtain ⟨b, o, hb, hc⟩ := (Reads.of_owns ho).at (j := j * 2) (by omega)
  cases hb
  have h1 := hc _ _ (tcells_at hj).1
  have h2 := hc _ _ (tcells_at hj).2
  rw [Nat.zero_add] at h1 h2
  exact ⟨h1, h2⟩

/-- The block r holds what s says, as lists. -/
structure RN (c : Addr → Option Value) (w : World) (r : Nat) (sE sT : Value) (s : NS) : Prop where
  c0 : w.cell? ⟨r, 0, none⟩ = some sE
  c1 : w.cell? ⟨r, 1, none⟩ = some sT
  c2 : w.cell? ⟨r, 2, none⟩ = some (.int .i64 s.last)
  c3 : w.cell? ⟨r, 3, none⟩ = some (.int .i64 s.most)
  blk : Blk w r
  es : ∃ css, EL c css s.es ∧ w.ownsRow (r + 1) 91 7 sE s.es.length css.flatten
  ts : w.ownsRow (r + 1) 94 2 sT s.ts.length (tcells s.ts)
  apart : ∀ k, sE.ownBlock = some k → sT.ownBlock ≠ some k
def rfp (r : Nat) (sE sT : Value) : List Nat := r :: (sE.ownBlock.toList ++ sT.ownBlock.toList)
theorem mem_rfp {r : Nat} {sE sT : Value} {b : Nat} : b ∈ rfp r sE sT ↔ b = r ∨ sE.ownBlock = some b ∨ sT.ownBlock = some b := by
  simp [rfp, Option.mem_toList]
theorem RN.fr {c : Addr → Option Value} {w w' : World} {r : Nat} {sE sT : Value} {s : NS} (h : RN c w r sE sT s) {S : Nat → Prop} (hf : Fr S w w') (hS : ∀ b ∈ rfp r sE sT, ¬ S b) : RN c w' r sE sT s := by
  have hr : ¬ S r := hS r (mem_rfp.2 (Or.inl rfl))
  obtain ⟨css, h1, h2⟩ := h.es
  exact ⟨hf.cell h.c0 hr, hf.cell h.c1 hr, hf.cell h.c2 hr, hf.cell h.c3 hr, h.blk.fr hf hr, ⟨css, h1, owns_fr h2 hf (fun k hk => hS k (mem_rfp.2 (Or.inr (Or.inl hk))))⟩, owns_fr h.ts hf (fun k hk => hS k (mem_rfp.2 (Or.inr (Or.inr hk)))), h.apart⟩
theorem RN.lt {c : Addr → Option Value} {w : World} {r : Nat} {sE sT : Value} {s : NS} (h : RN c w r sE sT s) : ∀ b ∈ rfp r sE sT, r ≤ b ∧ b < w.heap.size := fun b hb => by
  obtain ⟨css, _, h2⟩ := h.es
  rcases mem_rfp.1 hb with rfl | hb | hb
  · exact ⟨Nat.le_refl _, h.blk.lt⟩
  · have := owns_block h2 b hb; omega
  · have := owns_block h.ts b hb; omega
theorem RN.below {c : Addr → Option Value} {w w' : World} {r : Nat} {sE sT : Value} {s : NS} (h : RN c w r sE sT s) (hb : Below w.heap.size w w') : RN c w' r sE sT s :=
  h.fr (Fr.of_below hb) (fun b hm hle => by have := (h.lt b hm).2; omega)
/-- The entries are replaced. -/
theorem RN.setE {c : Addr → Option Value} {W w1 : World} {r : Nat} {sE sT v : Value} {s : NS} (h : RN c W r sE sT s) (hb : Fr (fun k => sE.ownBlock = some k) W w1) {css : List (List Value)} {es' : List (ByteArray × V)} (hel : EL c css es') (hv : w1.ownsRow (r + 1) 91 7 v es'.length css.flatten)
    (hown : ∀ k, v.ownBlock = some k → sE.ownBlock = some k ∨ W.heap.size ≤ k) : RN c (w1.setCell ⟨r, 0, none⟩ v) r v sT { s with es := es' } ∧ Went W (rfp r sE sT) (w1.setCell ⟨r, 0, none⟩ v) (rfp r v sT) := by
  obtain ⟨css0, h1, h2⟩ := h.es
  have hr : ¬ sE.ownBlock = some r := fun e => by have := (owns_block h2 r e).1; omega
  have hfs : Fr (· = r) w1 (w1.setCell ⟨r, 0, none⟩ v) := Fr.setCell (S := (· = r)) (Fr.refl _ w1) (fun _ => rfl) v
  have hT1 : w1.ownsRow (r + 1) 94 2 sT s.ts.length (tcells s.ts) := owns_fr h.ts hb (fun k hk e => h.apart k e hk)
  refine ⟨⟨cell_set_eq (hb.cell h.c0 hr), ?_, ?_, ?_, (h.blk.fr hb hr).setCell _ _, ⟨css, hel, owns_fr hv hfs (fun k hk e => ?_)⟩, owns_fr hT1 hfs (fun k hk e => ?_), fun k hk e => ?_⟩, ?_, fun b hb' => ?_⟩
  · rw [cell_set_ne (by simp)]; exact hb.cell h.c1 hr
  · rw [cell_set_ne (by simp)]; exact hb.cell h.c2 hr
  · rw [cell_set_ne (by simp)]; exact hb.cell h.c3 hr
  · have := (owns_block hv k hk).1; omega
  · have := (owns_block h.ts k hk).1; omega
  · rcases hown k hk with h3 | h3
    · exact h.apart k h3 e
    · have := (owns_block h.ts k e).2; omega
  · exact Fr.setCell (S := (· ∈ rfp r sE sT)) (hb.mono (fun i _ e => mem_rfp.2 (Or.inr (Or.inl e)))) (fun _ => mem_rfp.2 (Or.inl rfl)) v
  · rcases mem_rfp.1 hb' with rfl | h3 | h3
    · exact Or.inl (mem_rfp.2 (Or.inl rfl))
    · rcases hown b h3 with h4 | h4
      · exact Or.inl (mem_rfp.2 (Or.inr (Or.inl h4)))
      · exact Or.inr h4
    · exact Or.inl (mem_rfp.2 (Or.inr (Or.inr h3)))
/-- The tickets are replaced. -/
theorem RN.setT {c : Addr → Option Value} {W w1 : World} {r : Nat} {sE sT v : Value} {s : NS} (h : RN c W r sE sT s) (hb : Fr (fun k => sT.ownBlock = some k) W w1) {ts' : List (Int × ByteArray)} (hv : w1.ownsRow (r + 1) 94 2 v ts'.length (tcells ts'))
    (hown : ∀ k, v.ownBlock = some k → sT.ownBlock = some k ∨ W.heap.size ≤ k) : RN c (w1.setCell ⟨r, 1, none⟩ v) r sE v { s with ts := ts' } ∧ Went W (rfp r sE sT) (w1.setCell ⟨r, 1, none⟩ v) (rfp r sE v) := by
  obtain ⟨css0, h1, h2⟩ := h.es
  have hr : ¬ sT.ownBlock = some r := fun e => by have := (owns_block h.ts r e).1; omega
  have hfs : Fr (· = r) w1 (w1.setCell ⟨r, 1, none⟩ v) := Fr.setCell (S := (· = r)) (Fr.refl _ w1) (fun _ => rfl) v
  have hE1 : w1.ownsRow (r + 1) 91 7 sE s.es.length css0.flatten := owns_fr h2 hb (fun k hk e => h.apart k hk e)
  refine ⟨⟨?_, cell_set_eq (hb.cell h.c1 hr), ?_, ?_, (h.blk.fr hb hr).setCell _ _, ⟨css0, h1, owns_fr hE1 hfs (fun k hk e => ?_)⟩, owns_fr hv hfs (fun k hk e => ?_), fun k hk e => ?_⟩, ?_, fun b hb' => ?_⟩
  · rw [cell_set_ne (by simp)]; exact hb.cell h.c0 hr
  · rw [cell_set_ne (by simp)]; exact hb.cell h.c2 hr
  · rw [cell_set_ne (by simp)]; exact hb.cell h.c3 hr
  · have := (owns_block h2 k hk).1; omega
  · have := (owns_block hv k hk).1; omega
  · rcases hown k e with h3 | h3
    · exact h.apart k hk h3
    · have := (owns_block h2 k hk).2; omega
  · exact Fr.setCell (S := (· ∈ rfp r sE sT)) (hb.mono (fun i _ e => mem_rfp.2 (Or.inr (Or.inr e)))) (fun _ => mem_rfp.2 (Or.inl rfl)) v
  · rcases mem_rfp.1 hb' with rfl | h3 | h3
    · exact Or.inl (mem_rfp.2 (Or.inl rfl))
    · exact Or.inl (mem_rfp.2 (Or.inr (Or.inl h3)))
    · rcases hown b h3 with h4 | h4
      · exact Or.inl (mem_rfp.2 (Or.inr (Or.inr h4)))
      · exact Or.inr h4
/-- An entry goes. -/
theorem ref_without {c : Addr → Option Value} {W : World} {r : Nat} {sE sT : Value} {s : NS} (h : RN c W r sE sT s) (i : Nat) (hi : i < s.es.length) (hn : s.es.length < 1000000) :
    Calls Try.prog 54 #[P0 r, .int .i64 i] W fun e w' => ∃ sE', e = .returned (.tuple #[]) ∧ RN c w' r sE' sT { s with es := s.es.eraseIdx i } ∧ Went W (rfp r sE sT) w' (rfp r sE' sT) ∧ W.heap.size ≤ w'.heap.size ∧ ∀ k, sE'.ownBlock = some k → W.heap.size ≤ k := by
  obtain ⟨css, h1, h2⟩ := h.es
  obtain ⟨ae, ce, rfl⟩ := (Reads.of_owns h2).shape
  refine (without_row h2 h.c0 (h.blk.frz 0 none) h.blk.lt h1.one i hi hn).mono ?_
  rintro e w' ⟨v, w1, rfl, rfl, hb, hv, hk⟩
  have hl : (s.es.eraseIdx i).length = s.es.length - 1 := by rw [List.length_eraseIdx, if_pos hi]
  rw [← h1.flat_erase, ← hl] at hv
  obtain ⟨g1, g2⟩ := h.setE ((Fr.of_below hb).mono (fun j hj hle => absurd hle (by omega))) (h1.erase i) hv (fun k h' => Or.inr (hk k h'))
  exact ⟨v, rfl, g1, g2, by have := hb.size; simpa using this, hk⟩
end Go.Proofs.Ytlddjcfbapdjnaa
