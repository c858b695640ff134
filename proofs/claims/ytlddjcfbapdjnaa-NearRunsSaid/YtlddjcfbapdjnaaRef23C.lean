/- The document's answer for layer 23: the calls that turn something. -/
import Derived.Test.YtlddjcfbapdjnaaRef23B
namespace Go.Proofs.Ytlddjcfbapdjnaa
open Go.RowKit

theorem owns_at_empty {w : World} {base b : Nat} {e : TypeId} {size : Nat} (hb : base ≤ b) (h : w.heap[b]? = some (.cells #[] e (0, 0))) : w.ownsRow base e size (.slice (some ⟨b, 0, none⟩) 0 0) 0 [] :=
  ⟨by simp, Or.inr ⟨b, 0, #[], rfl, hb, h, Nat.le_refl _, by unfold maxLen; omega, by simp, by simp⟩⟩
theorem owns_cap {w : World} {base e size n cap : Nat} {a : Option Addr} {xs : List Value} (h : w.ownsRow base e size (.slice a n cap) n xs) : n ≤ cap ∧ (a = none → cap = 0) := by
  obtain ⟨_, ⟨h1, h2⟩ | ⟨g, c, cur, h, _, _, h1, _⟩⟩ := h
  · cases h1; simp
  · cases h; exact ⟨h1, fun h => by cases h⟩
theorem reads_block {w : World} {b size : Nat} {us : Array Value} {t : TypeId} (h : w.heap[b]? = some (.cells us t (0, 0))) (hs : us.size = size) : Reads w size (.slice (some ⟨b, 0, none⟩) 1 1) 1 us.toList :=
  ⟨_, _, rfl, by simp [hs], fun j u hj => ⟨b, 0, rfl, by simp [World.cell?, h]; simpa using hj⟩⟩
def bgR (B : Nat) (i : Nat) (w w' : World) : Prop := match i with
  | 1 => Below w.heap.size w w'
  | 13 => Below w.heap.size w w'
  | 6 => Fr (fun k => w.heap[k]? = some (.cells #[] 94 (0, 0))) w w' ∧ Below B w w'
  | 14 => Below B w w'
  | 17 => True
  | _ => w' = w

def gtR (i : Nat) (w w' : World) : Prop := match i with
  | 6 => Below w.heap.size w w'
  | 7 => True
  | 10 => True
  | _ => w' = w
theorem infoEntry : (Try.prog.info? 91).map (·.size) = some 7 := by kernel_rfl

set_option maxRecDepth 100000 in
set_option maxHeartbeats 3200000 in
theorem ref_begin {c : Addr → Option Value} {W0 : World} {r : Nat} {sE sT : Value} {s : NS} (h : RN c W0 r sE sT s) (key : ByteArray) (hl : 0 ≤ s.last ∧ s.last ≤ 1000000) (hn : s.ts.length ≤ 1000000) :
    Calls Try.prog 39 #[P0 r, .string key] W0 fun e w' => e = .returned (.int .i64 (s.last + 1)) ∧ ∃ sT', RN c w' r sE sT' (s.begin key) ∧ Went W0 (rfp r sE sT) w' (rfp r sE sT') ∧ W0.heap.size ≤ w'.heap.size := by
  obtain ⟨W, hW⟩ : ∃ W, W = W0.setCell ⟨r, 2, none⟩ (.int .i64 (s.last + 1)) := ⟨_, rfl⟩
  have hsz : W.heap.size = W0.heap.size := by rw [hW]; simp
  have hf0 : Fr (fun k => k = r) W0 W := by rw [hW]; exact Fr.setCell (S := (· = r)) (Fr.refl _ W0) (fun _ => rfl) _
  have h1 : RN c W r sE sT { s with last := s.last + 1 } := by
    obtain ⟨css, e1, e2⟩ := h.es
    exact ⟨by rw [hW, cell_set_ne (by simp)]; exact h.c0, by rw [hW, cell_set_ne (by simp)]; exact h.c1, by rw [hW]; exact cell_set_eq h.c2, by rw [hW, cell_set_ne (by simp)]; exact h.c3, by rw [hW]; exact h.blk.setCell _ _,
      ⟨css, e1, owns_fr e2 hf0 (fun k hk e => by have := (owns_block e2 k hk).1; omega)⟩, owns_fr h.ts hf0 (fun k hk e => by have := (owns_block h.ts k hk).1; omega), h.apart⟩
  have c2 := h.c2
  have z2 := h.blk.frz 2 none
  have hrow := h1.ts
  obtain ⟨at', ct, rfl⟩ := (Reads.of_owns hrow).shape
  have hrd := Reads.of_owns hrow
  have hnil := (owns_cap hrow).2
  have hone := tcells_one s.ts
  have hc1 := h1.c1
  have hc2 : W.cell? ⟨r, 2, none⟩ = some (.int .i64 (s.last + 1)) := h1.c2
  have hz1 := h1.blk.frz 1 none
  have hrl := h1.blk.lt
  replace hrow := Lib.hid hrow
  replace h1 := Lib.hid h1
  replace hf0 := Lib.hid hf0
  replace hW := Lib.hid hW
  replace hsz := Lib.hid hsz
  replace h := Lib.hid h
  obtain ⟨nt, hnt⟩ : ∃ nt, nt = s.ts.length := ⟨_, rfl⟩
  obtain ⟨xs, hxs⟩ : ∃ xs, xs = tcells s.ts := ⟨_, rfl⟩
  have hl0 := hl.1
  have hl1 := hl.2
  obtain ⟨last, hlast⟩ : ∃ last, last = s.last + 1 := ⟨_, rfl⟩
  simp only [← hnt] at hc1 hrd hn
  simp only [← hxs] at hrd hone
  rw [← hlast] at hc2
  replace hnt := Lib.hid hnt
  replace hxs := Lib.hid hxs
  replace hlast := Lib.hid hlast
  go_enter Try.func39, Try.ntmps39
  go_wp2_with fail
  rw [← hW.out]
  refine wp_region_rely (l := [_, _, _, _, _, _, _, _, _, _, _, _, _, _, _, _, _, _]) (fun _ => True) (Below W.heap.size W) (bgR W.heap.size) (fun k => ([fun v _ => v = P0 r, fun v w => ∃ b, v = .slice (some ⟨b, 0, none⟩) 0 0 ∧ w.heap[b]? = some (.cells #[] 94 (0, 0)) ∧ W.heap.size ≤ b, fun v _ => v = P0 r, fun v _ => v = P0 r, fun v _ => v = .pointer (some ⟨r, 1, none⟩), fun v _ => v = .slice at' nt ct, fun v w => w.ownsRow (r + 1) 94 2 v nt xs ∧ ∀ k, v.ownBlock = some k → W.heap.size ≤ k, fun v _ => v = P0 r, fun v _ => v = P0 r, fun v _ => v = .pointer (some ⟨r, 2, none⟩), fun v _ => v = .int .i64 last, fun v _ => v = .string key, fun v _ => v = .agg #[.int .i64 last, .string key], fun v w => ∃ b, v = .slice (some ⟨b, 0, none⟩) 1 1 ∧ w.heap[b]? = some (.cells #[.int .i64 last, .string key] 94 (0, 0)), fun v w => w.ownsRow (r + 1) 94 2 v (nt + 1) (xs ++ [.int .i64 last, .string key]) ∧ ∀ k, v.ownBlock = some k → W.heap.size ≤ k, fun v _ => v = P0 r, fun v _ => v = .pointer (some ⟨r, 1, none⟩), fun v w => ∃ (v1 : Value) (w1 : World), w = w1.setCell ⟨r, 1, none⟩ v1 ∧ Below W.heap.size W w1 ∧ w1.ownsRow (r + 1) 94 2 v1 (nt + 1) (xs ++ [.int .i64 last, .string key]) ∧ ∀ k, v1.ownBlock = some k → W.heap.size ≤ k] : List (Value → World → Prop)).getD k (fun _ _ => True)) (eats [(6, 1), (14, 6), (14, 13), (17, 14)]) (isIn [17]) (by kernel_rfl) (by kernel_rfl) (by kernel_rfl) trivial ((Below.refl _ _).drew) ?_ ?_ ?_ ?_
  · intro i k u w w' hne hE hg hr
    rcases k with _ | _ | _ | _ | _ | _ | _ | _ | _ | _ | _ | _ | _ | _ | _ | _ | _ | _ | k
    · exact hg
    · replace hg : (fun (v : Value) (w : World) => ∃ b, v = .slice (some ⟨b, 0, none⟩) 0 0 ∧ w.heap[b]? = some (.cells #[] 94 (0, 0)) ∧ W.heap.size ≤ b) u w := hg
      show (fun (v : Value) (w : World) => ∃ b, v = .slice (some ⟨b, 0, none⟩) 0 0 ∧ w.heap[b]? = some (.cells #[] 94 (0, 0)) ∧ W.heap.size ≤ b) u w'
      dsimp only at hg ⊢
      replace hE : exB _ _ i 1 = false := hE
      replace hne : 1 ≠ i := hne
      unfold bgR at hr
      split at hr
      all_goals first
        | exact absurd rfl hne
        | exact absurd (hE.symm.trans (by decide +kernel : exB _ _ _ _ = true)) (by decide)
        | (subst hr; exact hg)
        | ((obtain ⟨b, h1, h2, h3⟩ := hg; exact ⟨b, h1, (hr.block b (Array.getElem?_eq_some_iff.1 h2).1).trans h2, h3⟩))
    · exact hg
    · exact hg
    · exact hg
    · exact hg
    · replace hg : (fun (v : Value) (w : World) => w.ownsRow (r + 1) 94 2 v nt xs ∧ ∀ k, v.ownBlock = some k → W.heap.size ≤ k) u w := hg
      show (fun (v : Value) (w : World) => w.ownsRow (r + 1) 94 2 v nt xs ∧ ∀ k, v.ownBlock = some k → W.heap.size ≤ k) u w'
      dsimp only at hg ⊢
      replace hE : exB _ _ i 6 = false := hE
      replace hne : 6 ≠ i := hne
      unfold bgR at hr
      split at hr
      all_goals first
        | exact absurd rfl hne
        | exact absurd (hE.symm.trans (by decide +kernel : exB _ _ _ _ = true)) (by decide)
        | (subst hr; exact hg)
        | ((exact ⟨owns_fr hg.1 (Fr.of_below hr) (fun k hk => by have := (owns_block hg.1 k hk).2; omega), hg.2⟩))
    · exact hg
    · exact hg
    · exact hg
    · exact hg
    · exact hg
    · exact hg
    · replace hg : (fun (v : Value) (w : World) => ∃ b, v = .slice (some ⟨b, 0, none⟩) 1 1 ∧ w.heap[b]? = some (.cells #[.int .i64 last, .string key] 94 (0, 0))) u w := hg
      show (fun (v : Value) (w : World) => ∃ b, v = .slice (some ⟨b, 0, none⟩) 1 1 ∧ w.heap[b]? = some (.cells #[.int .i64 last, .string key] 94 (0, 0))) u w'
      dsimp only at hg ⊢
      replace hE : exB _ _ i 13 = false := hE
      replace hne : 13 ≠ i := hne
      unfold bgR at hr
      split at hr
      all_goals first
        | exact absurd rfl hne
        | exact absurd (hE.symm.trans (by decide +kernel : exB _ _ _ _ = true)) (by decide)
        | (subst hr; exact hg)
        | ((first | (obtain ⟨b, h1, h2⟩ := hg; exact ⟨b, h1, (hr.block b (Array.getElem?_eq_some_iff.1 h2).1).trans h2⟩) | (obtain ⟨b, h1, h2⟩ := hg; exact ⟨b, h1, (hr.1.block b (Array.getElem?_eq_some_iff.1 h2).1 (fun e => by rw [h2] at e; cases e)).trans h2⟩)))
    · replace hg : (fun (v : Value) (w : World) => w.ownsRow (r + 1) 94 2 v (nt + 1) (xs ++ [.int .i64 last, .string key]) ∧ ∀ k, v.ownBlock = some k → W.heap.size ≤ k) u w := hg
      show (fun (v : Value) (w : World) => w.ownsRow (r + 1) 94 2 v (nt + 1) (xs ++ [.int .i64 last, .string key]) ∧ ∀ k, v.ownBlock = some k → W.heap.size ≤ k) u w'
      dsimp only at hg ⊢
      replace hE : exB _ _ i 14 = false := hE
      replace hne : 14 ≠ i := hne
      unfold bgR at hr
      split at hr
      all_goals first
        | exact absurd rfl hne
        | exact absurd (hE.symm.trans (by decide +kernel : exB _ _ _ _ = true)) (by decide)
        | (subst hr; exact hg)
        | ((exact ⟨owns_fr hg.1 (Fr.of_below hr) (fun k hk => by have := (owns_block hg.1 k hk).2; omega), hg.2⟩))
    · exact hg
    · exact hg
    · replace hg : (fun (v : Value) (w : World) => ∃ (v1 : Value) (w1 : World), w = w1.setCell ⟨r, 1, none⟩ v1 ∧ Below W.heap.size W w1 ∧ w1.ownsRow (r + 1) 94 2 v1 (nt + 1) (xs ++ [.int .i64 last, .string key]) ∧ ∀ k, v1.ownBlock = some k → W.heap.size ≤ k) u w := hg
      show (fun (v : Value) (w : World) => ∃ (v1 : Value) (w1 : World), w = w1.setCell ⟨r, 1, none⟩ v1 ∧ Below W.heap.size W w1 ∧ w1.ownsRow (r + 1) 94 2 v1 (nt + 1) (xs ++ [.int .i64 last, .string key]) ∧ ∀ k, v1.ownBlock = some k → W.heap.size ≤ k) u w'
      dsimp only at hg ⊢
      replace hE : exB _ _ i 17 = false := hE
      replace hne : 17 ≠ i := hne
      unfold bgR at hr
      split at hr
      all_goals first
        | exact absurd rfl hne
        | exact absurd (hE.symm.trans (by decide +kernel : exB _ _ _ _ = true)) (by decide)
        | (subst hr; exact hg)
        | (fail)
    · trivial
  · intro i w w' hF hI hr
    unfold bgR at hr
    split at hr
    · exact hI.trans (hr.mono hI.size)
    · exact hI.trans (hr.mono hI.size)
    · exact hI.trans hr.2
    · exact hI.trans hr
    · exact absurd hF (by decide)
    · subst hr; exact hI
  · refine ⟨?_, ?_, ?_, ?_, ?_, ?_, ?_, ?_, ?_, ?_, ?_, ?_, ?_, ?_, ?_, ?_, ?_, ?_, trivial⟩
    · refine VC.plain rfl fun a wx hf => ?_
      have s0 := hf.old 0 (by rfl)
      have q0 := evalQ s0
      exact gives_value (by simp [go_sem, q0]) ⟨hf.c, rfl, rfl⟩
    · refine VC.plain rfl fun a wx hf => ?_
      have hI := hf.start (by kernel_rfl)
      exact gives_value (u := .slice (some ⟨wx.heap.size, 0, none⟩) 0 0) (w' := wx.alloc (.cells #[] 94)) (by simp [go_sem, Try.underlying69]) ⟨trivial, (Below.refl _ _).alloc (Nat.le_refl _) _, wx.heap.size, rfl, (MapKept.heap_alloc wx _).1, hI.size⟩
    · refine VC.plain rfl fun a wx hf => ?_
      have s0 := hf.old 0 (by rfl)
      have q0 := evalQ s0
      exact gives_value (by simp [go_sem, q0]) ⟨hf.c, rfl, rfl⟩
    · refine VC.plain rfl fun a wx hf => ?_
      obtain ⟨v14, g14, s14⟩ := hf.got 2 (by kernel_rfl) (by intro j hj; simp [eats] at hj) rfl rfl
      replace s14 := s14.trans (show v14 = P0 r from g14)
      clear g14
      have q14 := evalQ s14
      exact gives_value (by simp [go_sem, q14]) ⟨hf.c, rfl, rfl⟩
    · refine VC.plain rfl fun a wx hf => ?_
      obtain ⟨v15, g15, s15⟩ := hf.got 3 (by kernel_rfl) (by intro j hj; simp [eats] at hj) rfl rfl
      replace s15 := s15.trans (show v15 = P0 r from g15)
      clear g15
      have q15 := evalQ s15
      exact gives_value (by simp [go_sem, q15]) ⟨hf.c, rfl, rfl⟩
    · refine VC.plain rfl fun a wx hf => ?_
      obtain ⟨v16, g16, s16⟩ := hf.got 4 (by kernel_rfl) (by intro j hj; simp [eats] at hj) rfl rfl
      replace s16 := s16.trans (show v16 = .pointer (some ⟨r, 1, none⟩) from g16)
      clear g16
      have q16 := evalQ s16
      have hI := hf.start (by kernel_rfl)
      exact gives_value (by simp [go_sem, q16, hI.cell (p := ⟨r, 1, none⟩) hrl, hc1]) ⟨trivial, rfl, rfl⟩
    · refine VC.plain rfl fun a wx hf => ?_
      obtain ⟨v13, g13, s13⟩ := hf.got 1 (by kernel_rfl) (by intro j hj; simp [eats] at hj; omega) rfl rfl
      have q13 := evalQ s13
      replace g13 : (fun (v : Value) (w : World) => ∃ b, v = .slice (some ⟨b, 0, none⟩) 0 0 ∧ w.heap[b]? = some (.cells #[] 94 (0, 0)) ∧ W.heap.size ≤ b) v13 wx := g13
      dsimp only at g13
      obtain ⟨v17, g17, s17⟩ := hf.got 5 (by kernel_rfl) (by intro j hj; simp [eats] at hj) rfl rfl
      replace s17 := s17.trans (show v17 = .slice at' nt ct from g17)
      clear g17
      have q17 := evalQ s17
      have hI := hf.start (by kernel_rfl)
      obtain ⟨b, rfl, hb, hbB⟩ := g13
      refine gives_append rfl eTicket s13 (owns_at_empty (base := r + 1) (by omega) hb) s17 (hrd.below hI) hnil hone (by omega) (by have := hI.size; omega) (fun v' w' h1 h2 h3 => ?_)
      have hbl : Below W.heap.size wx w' := h2.below hI.size (fun i hi e => by obtain rfl : b = i := Option.some.inj e; omega)
      refine ⟨trivial, ⟨h2.mono (fun i _ e => by obtain rfl : b = i := Option.some.inj e; exact hb), hbl⟩, by simpa using h1, fun k hk => ?_⟩
      rcases h3 k hk with h | h
      · obtain rfl : b = k := Option.some.inj h; exact hbB
      · exact Nat.le_trans hI.size h
    · refine VC.plain rfl fun a wx hf => ?_
      have s0 := hf.old 0 (by rfl)
      have q0 := evalQ s0
      exact gives_value (by simp [go_sem, q0]) ⟨hf.c, rfl, rfl⟩
    · refine VC.plain rfl fun a wx hf => ?_
      obtain ⟨v19, g19, s19⟩ := hf.got 7 (by kernel_rfl) (by intro j hj; simp [eats] at hj) rfl rfl
      replace s19 := s19.trans (show v19 = P0 r from g19)
      clear g19
      have q19 := evalQ s19
      exact gives_value (by simp [go_sem, q19]) ⟨hf.c, rfl, rfl⟩
    · refine VC.plain rfl fun a wx hf => ?_
      obtain ⟨v20, g20, s20⟩ := hf.got 8 (by kernel_rfl) (by intro j hj; simp [eats] at hj) rfl rfl
      replace s20 := s20.trans (show v20 = P0 r from g20)
      clear g20
      have q20 := evalQ s20
      exact gives_value (by simp [go_sem, q20]) ⟨hf.c, rfl, rfl⟩
    · refine VC.plain rfl fun a wx hf => ?_
      obtain ⟨v21, g21, s21⟩ := hf.got 9 (by kernel_rfl) (by intro j hj; simp [eats] at hj) rfl rfl
      replace s21 := s21.trans (show v21 = .pointer (some ⟨r, 2, none⟩) from g21)
      clear g21
      have q21 := evalQ s21
      have hI := hf.start (by kernel_rfl)
      exact gives_value (by simp [go_sem, q21, hI.cell (p := ⟨r, 2, none⟩) hrl, hc2]) ⟨trivial, rfl, rfl⟩
    · refine VC.plain rfl fun a wx hf => ?_
      have s1 := hf.old 1 (by rfl)
      have q1 := evalQ s1
      exact gives_value (by simp [go_sem, q1]) ⟨hf.c, rfl, rfl⟩
    · refine VC.plain rfl fun a wx hf => ?_
      obtain ⟨v22, g22, s22⟩ := hf.got 10 (by kernel_rfl) (by intro j hj; simp [eats] at hj) rfl rfl
      replace s22 := s22.trans (show v22 = .int .i64 last from g22)
      clear g22
      have q22 := evalQ s22
      obtain ⟨v23, g23, s23⟩ := hf.got 11 (by kernel_rfl) (by intro j hj; simp [eats] at hj) rfl rfl
      replace s23 := s23.trans (show v23 = .string key from g23)
      clear g23
      have q23 := evalQ s23
      have hI := hf.start (by kernel_rfl)
      exact gives_value (by simp [go_sem, q22, q23]) ⟨trivial, rfl, rfl⟩
    · refine VC.plain rfl fun a wx hf => ?_
      obtain ⟨v24, g24, s24⟩ := hf.got 12 (by kernel_rfl) (by intro j hj; simp [eats] at hj) rfl rfl
      replace s24 := s24.trans (show v24 = .agg #[.int .i64 last, .string key] from g24)
      clear g24
      have q24 := evalQ s24
      have hI := hf.start (by kernel_rfl)
      exact gives_value (u := .slice (some ⟨wx.heap.size, 0, none⟩) 1 1) (w' := wx.alloc (.cells #[.int .i64 last, .string key] 94)) (by simp [go_sem, q24, Try.underlying69]) ⟨trivial, (Below.refl _ _).alloc (Nat.le_refl _) _, wx.heap.size, rfl, (MapKept.heap_alloc wx _).1⟩
    · refine VC.plain rfl fun a wx hf => ?_
      obtain ⟨v18, g18, s18⟩ := hf.got 6 (by kernel_rfl) (by intro j hj; simp [eats] at hj; omega) rfl rfl
      have q18 := evalQ s18
      replace g18 : (fun (v : Value) (w : World) => w.ownsRow (r + 1) 94 2 v nt xs ∧ ∀ k, v.ownBlock = some k → W.heap.size ≤ k) v18 wx := g18
      dsimp only at g18
      obtain ⟨v25, g25, s25⟩ := hf.got 13 (by kernel_rfl) (by intro j hj; simp [eats] at hj; omega) rfl rfl
      have q25 := evalQ s25
      replace g25 : (fun (v : Value) (w : World) => ∃ b, v = .slice (some ⟨b, 0, none⟩) 1 1 ∧ w.heap[b]? = some (.cells #[.int .i64 last, .string key] 94 (0, 0))) v25 wx := g25
      dsimp only at g25
      have hI := hf.start (by kernel_rfl)
      obtain ⟨b, rfl, hb⟩ := g25
      refine gives_append rfl eTicket s18 g18.1 s25 (reads_block hb rfl) (fun h => by cases h) (by simp [Value.oneCell']) (by omega) (by have := hI.size; omega) (fun v' w' h1 h2 h3 => ?_)
      have hbl : Below W.heap.size wx w' := h2.below hI.size (fun i hi e => by have := g18.2 i e; omega)
      refine ⟨trivial, hbl, h1, fun k hk => ?_⟩
      rcases h3 k hk with h | h
      · exact g18.2 k h
      · exact Nat.le_trans hI.size h
    · refine VC.plain rfl fun a wx hf => ?_
      obtain ⟨v12, g12, s12⟩ := hf.got 0 (by kernel_rfl) (by intro j hj; simp [eats] at hj) rfl rfl
      replace s12 := s12.trans (show v12 = P0 r from g12)
      clear g12
      have q12 := evalQ s12
      exact gives_value (by simp [go_sem, q12]) ⟨hf.c, rfl, rfl⟩
    · refine VC.plain rfl fun a wx hf => ?_
      obtain ⟨v27, g27, s27⟩ := hf.got 15 (by kernel_rfl) (by intro j hj; simp [eats] at hj) rfl rfl
      replace s27 := s27.trans (show v27 = P0 r from g27)
      clear g27
      have q27 := evalQ s27
      exact gives_value (by simp [go_sem, q27]) ⟨hf.c, rfl, rfl⟩
    · refine VC.plain rfl fun a wx hf => ?_
      obtain ⟨v28, g28, s28⟩ := hf.got 16 (by kernel_rfl) (by intro j hj; simp [eats] at hj) rfl rfl
      replace s28 := s28.trans (show v28 = .pointer (some ⟨r, 1, none⟩) from g28)
      clear g28
      have q28 := evalQ s28
      obtain ⟨v26, g26, s26⟩ := hf.got 14 (by kernel_rfl) (by intro j hj; simp [eats] at hj; omega) rfl rfl
      have q26 := evalQ s26
      replace g26 : (fun (v : Value) (w : World) => w.ownsRow (r + 1) 94 2 v (nt + 1) (xs ++ [.int .i64 last, .string key]) ∧ ∀ k, v.ownBlock = some k → W.heap.size ≤ k) v26 wx := g26
      dsimp only at g26
      have hI := hf.start (by kernel_rfl)
      obtain ⟨a26, c26, rfl⟩ := (Reads.of_owns g26.1).shape
      exact gives_skip (w' := wx.setCell ⟨r, 1, none⟩ _) (by simp [go_sem, q26, q28, hI.cell (p := ⟨r, 1, none⟩) hrl, hI.frozen (p := ⟨r, 1, none⟩) hrl, hc1, hz1]) ⟨trivial, trivial, _, wx, rfl, hI, g26.1, g26.2⟩
  · intro vs w1 hb hG
    obtain ⟨v1, w2, e, g1, g2, g3⟩ := hG 17 (by decide) (by decide)
    have n0 : vs 0 = P0 r := hG 0 (by decide) (by decide)
    clear hG
    subst e
    rw [hxs.out, hnt.out, ← tcells_snoc s.ts (last, key)] at g2
    obtain ⟨k1, k2⟩ := h1.out.setT ((Fr.of_below g1).mono (fun j hj hle => absurd hle (by omega))) (ts' := s.ts ++ [(last, key)]) (by simpa using g2) (fun k hk => Or.inr (g3 k hk))
    have hc2' := k1.c2
    rw [← hlast.out] at k1 hc2'
    have hsg : W0.heap.size ≤ w2.heap.size := by have := g1.size; rw [hsz.out] at this; exact this
    have hw0 : Went W0 (rfp r sE (.slice at' s.ts.length ct)) W (rfp r sE (.slice at' s.ts.length ct)) := ⟨hf0.out.mono (fun i _ e => by subst e; exact mem_rfp.2 (Or.inl rfl)), fun b hb => Or.inl hb⟩
    have hwt := hw0.trans k2
    replace k1 := Lib.hid k1
    replace k2 := Lib.hid k2
    replace hwt := Lib.hid hwt
    clear hw0 g1 g2 g3 hc1 hc2 hz1 hrd hone
    simp only [putFrom, Act.put, List.setIfInBounds_toArray, List.set_cons_zero, List.set_cons_succ]
    go_wp2
    go_ret
    refine ⟨by rw [← hlast.out]; rfl, v1, ?_, hwt.out, by simpa using hsg⟩
    have := k1.out
    rw [NS.begin, ← hlast.out]
    exact this

theorem erase_filter {es : List (ByteArray × V)} {k : ByteArray} (hn : (es.map (·.1)).Nodup) {i : Nat} (hi : i < es.length) (hk : es[i].1 = k) : es.eraseIdx i = es.filter (fun p => p.1 ≠ k) := by
  induction es generalizing i with
  | nil => simp at hi
  | cons p es ih =>
    rw [List.map_cons, List.nodup_cons] at hn
    cases i with
    | zero =>
      simp at hk
      rw [List.eraseIdx_cons_zero, List.filter_cons, if_neg (by simp [hk]), List.filter_eq_self.2]
      intro q hq
      have : q.1 ≠ k := fun e => hn.1 (by rw [hk, ← e]; exact List.mem_map.2 ⟨q, hq, rfl⟩)
      simpa using this
    | succ i =>
      simp at hk hi
      have hne : p.1 ≠ k := fun e => hn.1 (by rw [e, ← hk]; exact List.mem_map.2 ⟨es[i], List.getElem_mem hi, rfl⟩)
      rw [List.eraseIdx_cons_succ, List.filter_cons, if_pos (by simp [hne]), ih hn.2 hi hk]
theorem filter_none {es : List (ByteArray × V)} {k : ByteArray} (h : lookE es k = none) : es.filter (fun p => p.1 ≠ k) = es := by
  rw [List.filter_eq_self]
  intro q hq
  have : q.1 ≠ k := fun e => lookE_none.1 h (by rw [← e]; exact List.mem_map.2 ⟨q, hq, rfl⟩)
  simpa using this

set_option maxRecDepth 100000 in
set_option maxHeartbeats 3200000 in
theorem ref_get {c : Addr → Option Value} {W0 : World} {r : Nat} {sE sT : Value} {s : NS} (h : RN c W0 r sE sT s) (key : ByteArray) (hn : s.es.length < 1000000) (hnd : (s.es.map (·.1)).Nodup) :
    Calls Try.prog 38 #[P0 r, .string key] W0 fun e w' => ∃ cs : List Value, e = .returned (.tuple #[.agg cs.toArray, .bool (lookE s.es key).isSome]) ∧ RV c cs ((lookE s.es key).getD V.zero) ∧ ∃ sE' : Value,
      RN c w' r sE' sT (s.get key) ∧ Went W0 (rfp r sE sT) w' (rfp r sE' sT) ∧ W0.heap.size ≤ w'.heap.size := by
  obtain ⟨W1, hW1⟩ : ∃ W1, W1 = W0.alloc (.cells zero7 44) := ⟨_, rfl⟩
  have hb1 : Below W0.heap.size W0 W1 := by rw [hW1]; exact (Below.refl _ _).alloc (Nat.le_refl _) _
  have hx : RBox W1 W0.heap.size := by rw [hW1]; exact RBox.new W0
  have hfp := h.lt
  have h1 := h.below hb1
  have hsp := findI_spec s.es key
  replace hW1 := Lib.hid hW1
  replace h1 := Lib.hid h1
  replace hsp := Lib.hid hsp
  replace hfp := Lib.hid hfp
  replace h := Lib.hid h
  go_enter Try.func38, Try.ntmps38
  go_wp2_with fail
  rw [← hW1.out]
  refine (ref_find h1.out key hn).mono ?_
  rintro e w2 ⟨rfl, hb2⟩
  have h2 := h1.out.below hb2
  have hx2 := hx.below hb2
  have hbw := hb1.trans (hb2.mono hb1.size)
  rcases hsp.out with ⟨hlk, hfi⟩ | ⟨i, hi, hfi, hk, hlk, _⟩
  · rw [hfi]
    clear hsp
    obtain ⟨hr, hf⟩ := hx2.put (cs := [.int .i64 0, .string ⟨#[]⟩, .int .i64 0, .float .f64 0, .bool false, .slice none 0 0]) rfl
    have ht := hx2.there
    have hg : s.get key = s := by simp [NS.get, hlk]
    replace ht := Lib.hid ht
    replace hr := Lib.hid hr
    replace h2 := Lib.hid h2
    replace hlk := Lib.hid hlk
    replace hfi := Lib.hid hfi
    replace hg := Lib.hid hg
    go_wp2_with (first
      | (refine wpList_store_mid rfl 44 _ _ rfl W0.heap.size 0 _ rfl rfl ht.out infoVal (one6 _ _ _ _ _ _ _ _) ?_))
    have hbe := hbw.trans (hf.below hbw.size (fun i hi h => by omega))
    exact bodyPost_ret (results_cell2 (v := .agg #[.int .i64 0, .string ⟨#[]⟩, .int .i64 0, .float .f64 0, .bool false, .slice none 0 0]) rfl rfl (run_loadVar_mid (P := Try.prog) _ _ 0 44 _ _ hr.out Try.underlying44 rfl infoVal)) rfl
      ⟨[.int .i64 0, .string ⟨#[]⟩, .int .i64 0, .float .f64 0, .bool false, .slice none 0 0], by rw [hlk.out]; rfl, by rw [hlk.out]; exact RV.leaf _ 0 ⟨#[]⟩ 0 0 false none 0, sE, by rw [hg.out]; exact h.out.below hbe, Went.of_below hbe, hbe.size⟩
  · rw [hfi]
    obtain ⟨css, e1, e2⟩ := h2.es
    obtain ⟨ae0, ce0, rfl⟩ := (Reads.of_owns e2).shape
    obtain ⟨g, rfl⟩ := owns_some e2 (by omega)
    have c0 := h2.c0
    obtain ⟨va, vc, hrv, d0, d1, d2, d3, d4, d5, d6⟩ := e1.elem rfl e2 hi
    have hek : (s.es[i].1, s.es[i].2) = (key, s.es[i].2) := by rw [hk]
    generalize s.es[i].2 = tv at *
    rw [hk] at d0
    obtain ⟨n, hne⟩ : ∃ n, n = s.es.length := ⟨_, rfl⟩
    rw [← hne] at c0
    have i0 : (0 : Int) ≤ (i : Int) := by omega
    have i1 : (i : Int) < (n : Int) := by omega
    obtain ⟨W3, hW3⟩ : ∃ W3, W3 = w2.alloc (.cells #[.string key, .int .i64 tv.kind, .string tv.text, .int .i64 tv.int, .float .f64 tv.real, .bool tv.flag, .slice va tv.list.length vc] 91) := ⟨_, rfl⟩
    have hb3 : Below w2.heap.size w2 W3 := by rw [hW3]; exact (Below.refl _ _).alloc (Nat.le_refl _) _
    have hs3 : w2.heap.size < W3.heap.size := by rw [hW3]; simp
    have hbx3 : W3.rangeAt w2.heap.size 0 [.string key, .int .i64 tv.kind, .string tv.text, .int .i64 tv.int, .float .f64 tv.real, .bool tv.flag, .slice va tv.list.length vc] := fun j u hj => by rw [hW3, Nat.zero_add, World.cell?_alloc_new]; simpa using hj
    have h3 := h2.below hb3
    have hx3 := hx2.below hb3
    have hlt2 := h2.lt
    replace hW3 := Lib.hid hW3
    replace h2 := Lib.hid h2
    replace h3 := Lib.hid h3
    replace hlk := Lib.hid hlk
    replace hfi := Lib.hid hfi
    replace hne := Lib.hid hne
    replace hk := Lib.hid hk
    replace hrv := Lib.hid hrv
    replace hek := Lib.hid hek
    replace hlt2 := Lib.hid hlt2
    clear hsp e2 e1
    go_wp2_with fail
    rw [← hW3.out]
    refine (ref_without h3.out i hi hn).mono ?_
    rintro e w4 ⟨sE', rfl, h4, hw4, hsz4, hown4⟩
    obtain ⟨css4, f1, f2⟩ := h4.es
    obtain ⟨ae, ce, rfl⟩ := (Reads.of_owns f2).shape
    have hc0 := h4.c0
    have hblk := h4.blk
    have hrl := hblk.lt
    have hro : ¬ (Value.slice ae (s.es.eraseIdx i).length ce).ownBlock = some r := fun e => by have := (owns_block f2 r e).1; omega
    have hlt3 : w2.heap.size ∉ rfp r (.slice (some ⟨g, 0, none⟩) n ce0) sT := fun hm => by have := (hlt2.out _ (by rw [← hne.out]; exact hm)).2; omega
    have hlx3 : W0.heap.size ∉ rfp r (.slice (some ⟨g, 0, none⟩) n ce0) sT := fun hm => by have := (hfp.out _ (by rw [← hne.out]; exact hm)).2; omega
    have hbx : w4.rangeAt w2.heap.size 0 [.string key, .int .i64 tv.kind, .string tv.text, .int .i64 tv.int, .float .f64 tv.real, .bool tv.flag, .slice va tv.list.length vc] := fun j u hj => hw4.1.cell (hbx3 j u hj) (by rw [← hne.out]; exact hlt3)
    have hx4 : RBox w4 W0.heap.size := hx3.fr hw4.1 (by rw [← hne.out]; exact hlx3)
    have hrfp : r ∈ rfp r (.slice (some ⟨g, 0, none⟩) n ce0) sT := mem_rfp.2 (Or.inl rfl)
    have hbr : w2.heap.size ≠ r := fun e => hlt3 (e ▸ hrfp)
    have hxr : W0.heap.size ≠ r := fun e => hlx3 (e ▸ hrfp)
    have hbo' : ¬ (Value.slice ae (s.es.eraseIdx i).length ce).ownBlock = some w2.heap.size := fun e => by have := hown4 _ e; omega
    have hbo : ¬ (w2.heap.size = r ∨ (Value.slice ae (s.es.eraseIdx i).length ce).ownBlock = some w2.heap.size) := fun e => by rcases e with e | e; exact hbr e; exact hbo' e
    have hxo : ¬ (Value.slice ae (s.es.eraseIdx i).length ce).ownBlock = some W0.heap.size := fun e => by have := hown4 _ e; have := hbw.size; have := hx2.blk.lt; omega
    have hel : (s.es.eraseIdx i).length < 1000000 := by rw [List.length_eraseIdx]; split <;> omega
    obtain ⟨ne, hnee⟩ : ∃ ne, ne = (s.es.eraseIdx i).length := ⟨_, rfl⟩
    have hrow : w4.ownsRow (r + 1) 91 7 (.slice ae ne ce) ne css4.flatten := by rw [hnee]; exact f2
    simp only [← hnee] at hc0 hro hbo hbo' hxo hel h4
    obtain ⟨xs, hxs⟩ : ∃ xs, xs = css4.flatten := ⟨_, rfl⟩
    rw [← hxs] at hrow
    obtain ⟨W, hWe⟩ : ∃ W, W = w4 := ⟨_, rfl⟩
    subst hWe
    replace h4 := Lib.hid h4
    replace hw4 := Lib.hid hw4
    replace hnee := Lib.hid hnee
    replace hxs := Lib.hid hxs
    replace f1 := Lib.hid f1
    replace f2 := Lib.hid f2
    replace hx4 := Lib.hid hx4
    replace hbx := Lib.hid hbx
    replace hrow := Lib.hid hrow
    replace hown4 := Lib.hid hown4
    clear d0 d1 d2 d3 d4 d5 d6 c0
    go_wp2_with fail
    replace hbx := hbx.out
    replace hrow := hrow.out
    refine wp_region_rely (l := [_, _, _, _, _, _, _, _, _, _, _]) (Fr (fun k => k = r ∨ (Value.slice ae ne ce).ownBlock = some k) W) (Below W.heap.size W) gtR (fun k => ([fun v _ => v = P0 r, fun v _ => v = P0 r, fun v _ => v = P0 r, fun v _ => v = P0 r, fun v _ => v = .slice ae ne ce, fun v _ => v = .agg #[.string key, .int .i64 tv.kind, .string tv.text, .int .i64 tv.int, .float .f64 tv.real, .bool tv.flag, .slice va tv.list.length vc], fun v w => ∃ b, v = .slice (some ⟨b, 0, none⟩) 1 1 ∧ w.heap[b]? = some (.cells #[.string key, .int .i64 tv.kind, .string tv.text, .int .i64 tv.int, .float .f64 tv.real, .bool tv.flag, .slice va tv.list.length vc] 91 (0, 0)), fun v w => Fr (fun k => (Value.slice ae ne ce).ownBlock = some k) W w ∧ w.ownsRow (r + 1) 91 7 v (ne + 1) (xs ++ ([.string key, .int .i64 tv.kind, .string tv.text, .int .i64 tv.int, .float .f64 tv.real, .bool tv.flag, .slice va tv.list.length vc] : List Value)) ∧ ∀ k, v.ownBlock = some k → (Value.slice ae ne ce).ownBlock = some k ∨ W.heap.size ≤ k, fun v _ => v = P0 r, fun v _ => v = P0 r, fun v w => ∃ (v1 : Value) (w1 : World), w = w1.setCell ⟨r, 0, none⟩ v1 ∧ Fr (fun k => (Value.slice ae ne ce).ownBlock = some k) W w1 ∧ w1.ownsRow (r + 1) 91 7 v1 (ne + 1) (xs ++ ([.string key, .int .i64 tv.kind, .string tv.text, .int .i64 tv.int, .float .f64 tv.real, .bool tv.flag, .slice va tv.list.length vc] : List Value)) ∧ ∀ k, v1.ownBlock = some k → (Value.slice ae ne ce).ownBlock = some k ∨ W.heap.size ≤ k] : List (Value → World → Prop)).getD k (fun _ _ => True)) (eats [(7, 6), (10, 7)]) (isIn [7, 10]) (by kernel_rfl) (by kernel_rfl) (by kernel_rfl) ((Fr.refl _ _).drew) ((Below.refl _ _).drew) ?_ ?_ ?_ ?_
    · intro i k u w w' hne hE hg hr
      rcases k with _ | _ | _ | _ | _ | _ | _ | _ | _ | _ | _ | k
      · exact hg
      · exact hg
      · exact hg
      · exact hg
      · exact hg
      · exact hg
      · replace hg : (fun (v : Value) (w : World) => ∃ b, v = .slice (some ⟨b, 0, none⟩) 1 1 ∧ w.heap[b]? = some (.cells #[.string key, .int .i64 tv.kind, .string tv.text, .int .i64 tv.int, .float .f64 tv.real, .bool tv.flag, .slice va tv.list.length vc] 91 (0, 0))) u w := hg
        show (fun (v : Value) (w : World) => ∃ b, v = .slice (some ⟨b, 0, none⟩) 1 1 ∧ w.heap[b]? = some (.cells #[.string key, .int .i64 tv.kind, .string tv.text, .int .i64 tv.int, .float .f64 tv.real, .bool tv.flag, .slice va tv.list.length vc] 91 (0, 0))) u w'
        dsimp only at hg ⊢
        replace hE : exB _ _ i 6 = false := hE
        replace hne : 6 ≠ i := hne
        unfold gtR at hr
        split at hr
        all_goals first
          | exact absurd rfl hne
          | exact absurd (hE.symm.trans (by decide +kernel : exB _ _ _ _ = true)) (by decide)
          | (subst hr; exact hg)
          | ((obtain ⟨b, h1, h2⟩ := hg; exact ⟨b, h1, (hr.block b (Array.getElem?_eq_some_iff.1 h2).1).trans h2⟩))
      · replace hg : (fun (v : Value) (w : World) => Fr (fun k => (Value.slice ae ne ce).ownBlock = some k) W w ∧ w.ownsRow (r + 1) 91 7 v (ne + 1) (xs ++ ([.string key, .int .i64 tv.kind, .string tv.text, .int .i64 tv.int, .float .f64 tv.real, .bool tv.flag, .slice va tv.list.length vc] : List Value)) ∧ ∀ k, v.ownBlock = some k → (Value.slice ae ne ce).ownBlock = some k ∨ W.heap.size ≤ k) u w := hg
        show (fun (v : Value) (w : World) => Fr (fun k => (Value.slice ae ne ce).ownBlock = some k) W w ∧ w.ownsRow (r + 1) 91 7 v (ne + 1) (xs ++ ([.string key, .int .i64 tv.kind, .string tv.text, .int .i64 tv.int, .float .f64 tv.real, .bool tv.flag, .slice va tv.list.length vc] : List Value)) ∧ ∀ k, v.ownBlock = some k → (Value.slice ae ne ce).ownBlock = some k ∨ W.heap.size ≤ k) u w'
        dsimp only at hg ⊢
        replace hE : exB _ _ i 7 = false := hE
        replace hne : 7 ≠ i := hne
        unfold gtR at hr
        split at hr
        all_goals first
          | exact absurd rfl hne
          | exact absurd (hE.symm.trans (by decide +kernel : exB _ _ _ _ = true)) (by decide)
          | (subst hr; exact hg)
          | (fail)
      · exact hg
      · exact hg
      · replace hg : (fun (v : Value) (w : World) => ∃ (v1 : Value) (w1 : World), w = w1.setCell ⟨r, 0, none⟩ v1 ∧ Fr (fun k => (Value.slice ae ne ce).ownBlock = some k) W w1 ∧ w1.ownsRow (r + 1) 91 7 v1 (ne + 1) (xs ++ ([.string key, .int .i64 tv.kind, .string tv.text, .int .i64 tv.int, .float .f64 tv.real, .bool tv.flag, .slice va tv.list.length vc] : List Value)) ∧ ∀ k, v1.ownBlock = some k → (Value.slice ae ne ce).ownBlock = some k ∨ W.heap.size ≤ k) u w := hg
        show (fun (v : Value) (w : World) => ∃ (v1 : Value) (w1 : World), w = w1.setCell ⟨r, 0, none⟩ v1 ∧ Fr (fun k => (Value.slice ae ne ce).ownBlock = some k) W w1 ∧ w1.ownsRow (r + 1) 91 7 v1 (ne + 1) (xs ++ ([.string key, .int .i64 tv.kind, .string tv.text, .int .i64 tv.int, .float .f64 tv.real, .bool tv.flag, .slice va tv.list.length vc] : List Value)) ∧ ∀ k, v1.ownBlock = some k → (Value.slice ae ne ce).ownBlock = some k ∨ W.heap.size ≤ k) u w'
        dsimp only at hg ⊢
        replace hE : exB _ _ i 10 = false := hE
        replace hne : 10 ≠ i := hne
        unfold gtR at hr
        split at hr
        all_goals first
          | exact absurd rfl hne
          | exact absurd (hE.symm.trans (by decide +kernel : exB _ _ _ _ = true)) (by decide)
          | (subst hr; exact hg)
          | (fail)
      · trivial
    · intro i w w' hF hI hr
      unfold gtR at hr
      split at hr
      · exact hI.trans (hr.mono hI.size)
      · exact absurd hF (by decide)
      · exact absurd hF (by decide)
      · subst hr; exact hI
    · refine ⟨?_, ?_, ?_, ?_, ?_, ?_, ?_, ?_, ?_, ?_, ?_, trivial⟩
      · refine VC.plain rfl fun a wx hf => ?_
        have s0 := hf.old 0 (by rfl)
        have q0 := evalQ s0
        exact gives_value (by simp [go_sem, q0]) ⟨hf.c, rfl, rfl⟩
      · refine VC.plain rfl fun a wx hf => ?_
        have s0 := hf.old 0 (by rfl)
        have q0 := evalQ s0
        exact gives_value (by simp [go_sem, q0]) ⟨hf.c, rfl, rfl⟩
      · refine VC.plain rfl fun a wx hf => ?_
        obtain ⟨v25, g25, s25⟩ := hf.got 1 (by kernel_rfl) (by intro j hj; simp [eats] at hj) rfl rfl
        replace s25 := s25.trans (show v25 = P0 r from g25)
        clear g25
        have q25 := evalQ s25
        exact gives_value (by simp [go_sem, q25]) ⟨hf.c, rfl, rfl⟩
      · refine VC.plain rfl fun a wx hf => ?_
        obtain ⟨v26, g26, s26⟩ := hf.got 2 (by kernel_rfl) (by intro j hj; simp [eats] at hj) rfl rfl
        replace s26 := s26.trans (show v26 = P0 r from g26)
        clear g26
        have q26 := evalQ s26
        exact gives_value (by simp [go_sem, q26]) ⟨hf.c, rfl, rfl⟩
      · refine VC.plain rfl fun a wx hf => ?_
        obtain ⟨v27, g27, s27⟩ := hf.got 3 (by kernel_rfl) (by intro j hj; simp [eats] at hj) rfl rfl
        replace s27 := s27.trans (show v27 = P0 r from g27)
        clear g27
        have q27 := evalQ s27
        have hI := hf.start (by kernel_rfl)
        exact gives_value (by simp [go_sem, q27, hI.cell (p := ⟨r, 0, none⟩) hrl, hc0]) ⟨hf.c, rfl, rfl⟩
      · refine VC.plain rfl fun a wx hf => ?_
        have s7 := hf.old 7 (by rfl)
        have q7 := evalQ s7
        exact gives_load_mid rfl s7 (fun j u hj => hf.c.cell (hbx j u hj) hbo) Try.underlying91 rfl infoEntry ⟨hf.c, rfl, rfl⟩
      · refine VC.plain rfl fun a wx hf => ?_
        obtain ⟨v29, g29, s29⟩ := hf.got 5 (by kernel_rfl) (by intro j hj; simp [eats] at hj) rfl rfl
        replace s29 := s29.trans (show v29 = .agg #[.string key, .int .i64 tv.kind, .string tv.text, .int .i64 tv.int, .float .f64 tv.real, .bool tv.flag, .slice va tv.list.length vc] from g29)
        clear g29
        have q29 := evalQ s29
        exact gives_value (u := .slice (some ⟨wx.heap.size, 0, none⟩) 1 1) (w' := wx.alloc (.cells #[.string key, .int .i64 tv.kind, .string tv.text, .int .i64 tv.int, .float .f64 tv.real, .bool tv.flag, .slice va tv.list.length vc] 91)) (by simp [go_sem, q29, Try.underlying68]) ⟨hf.c.alloc _, (Below.refl _ _).alloc (Nat.le_refl _) _, wx.heap.size, rfl, (MapKept.heap_alloc wx _).1⟩
      · refine VC.plain rfl fun a wx hf => ?_
        obtain ⟨v28, g28, s28⟩ := hf.got 4 (by kernel_rfl) (by intro j hj; simp [eats] at hj) rfl rfl
        replace s28 := s28.trans (show v28 = .slice ae ne ce from g28)
        clear g28
        have q28 := evalQ s28
        obtain ⟨v30, g30, s30⟩ := hf.got 6 (by kernel_rfl) (by intro j hj; simp [eats] at hj; omega) rfl rfl
        have q30 := evalQ s30
        replace g30 : (fun (v : Value) (w : World) => ∃ b, v = .slice (some ⟨b, 0, none⟩) 1 1 ∧ w.heap[b]? = some (.cells #[.string key, .int .i64 tv.kind, .string tv.text, .int .i64 tv.int, .float .f64 tv.real, .bool tv.flag, .slice va tv.list.length vc] 91 (0, 0))) v30 wx := g30
        dsimp only at g30
        have hI := hf.start (by kernel_rfl)
        obtain ⟨b, rfl, hb⟩ := g30
        have hown1 : wx.ownsRow (r + 1) 91 7 (.slice ae ne ce) ne xs := owns_fr hrow (Fr.of_below hI) (fun k hk hle => by have := (owns_block hrow k hk).2; omega)
        refine gives_append rfl eEntry s28 hown1 s30 (reads_block hb rfl) (fun h => by cases h) (by simp [Value.oneCell']) (by omega) (by have := hI.size; omega) (fun v' w' h1 h2 h3 => ?_)
        have hfr : Fr (fun k => (Value.slice ae ne ce).ownBlock = some k) W w' := Fr.trans ((Fr.of_below hI).mono (fun j hj hle => absurd hle (by omega))) h2
        refine ⟨hfr.mono (fun i _ h => Or.inr h), trivial, hfr, h1, fun k hk => ?_⟩
        rcases h3 k hk with h | h
        · exact Or.inl h
        · exact Or.inr (Nat.le_trans hI.size h)
      · refine VC.plain rfl fun a wx hf => ?_
        obtain ⟨v24, g24, s24⟩ := hf.got 0 (by kernel_rfl) (by intro j hj; simp [eats] at hj) rfl rfl
        replace s24 := s24.trans (show v24 = P0 r from g24)
        clear g24
        have q24 := evalQ s24
        exact gives_value (by simp [go_sem, q24]) ⟨hf.c, rfl, rfl⟩
      · refine VC.plain rfl fun a wx hf => ?_
        obtain ⟨v32, g32, s32⟩ := hf.got 8 (by kernel_rfl) (by intro j hj; simp [eats] at hj) rfl rfl
        replace s32 := s32.trans (show v32 = P0 r from g32)
        clear g32
        have q32 := evalQ s32
        exact gives_value (by simp [go_sem, q32]) ⟨hf.c, rfl, rfl⟩
      · refine VC.plain rfl fun a wx hf => ?_
        obtain ⟨v33, g33, s33⟩ := hf.got 9 (by kernel_rfl) (by intro j hj; simp [eats] at hj) rfl rfl
        replace s33 := s33.trans (show v33 = P0 r from g33)
        clear g33
        have q33 := evalQ s33
        obtain ⟨v31, g31, s31⟩ := hf.got 7 (by kernel_rfl) (by intro j hj; simp [eats] at hj; omega) rfl rfl
        have q31 := evalQ s31
        replace g31 : (fun (v : Value) (w : World) => Fr (fun k => (Value.slice ae ne ce).ownBlock = some k) W w ∧ w.ownsRow (r + 1) 91 7 v (ne + 1) (xs ++ ([.string key, .int .i64 tv.kind, .string tv.text, .int .i64 tv.int, .float .f64 tv.real, .bool tv.flag, .slice va tv.list.length vc] : List Value)) ∧ ∀ k, v.ownBlock = some k → (Value.slice ae ne ce).ownBlock = some k ∨ W.heap.size ≤ k) v31 wx := g31
        dsimp only at g31
        obtain ⟨h1, h2, h3⟩ := g31
        obtain ⟨a31, c31, rfl⟩ := (Reads.of_owns h2).shape
        exact gives_skip (w' := wx.setCell ⟨r, 0, none⟩ _) (by simp [go_sem, q31, q33, h1.cell (p := ⟨r, 0, none⟩) hc0 hro, (hblk.fr h1 hro).frz 0 none]) ⟨Fr.setCell (S := fun k => k = r ∨ (Value.slice ae ne ce).ownBlock = some k) hf.c (fun _ => Or.inl rfl) _, trivial, _, wx, rfl, h1, h2, h3⟩
    · intro vs w5 hb hG
      obtain ⟨v1, w6, e, g1, g2, g3⟩ := hG 10 (by decide) (by decide)
      clear hG
      subst e
      have g1' := g1.mono (T := fun k => (Value.slice ae (s.es.eraseIdx i).length ce).ownBlock = some k) (fun j _ e => by rw [← hnee.out]; exact e)
      rw [hxs.out, hnee.out] at g2
      have hel2 := f1.out.snoc (cs := cells6 tv.kind tv.text tv.int tv.real tv.flag va tv.list.length vc) (k := key) (v := tv) hrv.out
      obtain ⟨k1, k2⟩ := (show RN c W r (.slice ae (s.es.eraseIdx i).length ce) sT { s with es := s.es.eraseIdx i } by rw [← hnee.out]; exact h4.out).setE g1' hel2 (by simpa [cells6] using g2) (fun k hk => by rw [← hnee.out]; exact g3 k hk)
      have hf8 : Fr (fun k => k = r ∨ (Value.slice ae ne ce).ownBlock = some k) W (w6.setCell ⟨r, 0, none⟩ v1) := Fr.setCell (S := fun k => k = r ∨ (Value.slice ae ne ce).ownBlock = some k) (g1.mono (fun _ _ h => Or.inr h)) (fun _ => Or.inl rfl) _
      have hx8 : RBox (w6.setCell ⟨r, 0, none⟩ v1) W0.heap.size := hx4.out.fr hf8 (fun e => by rcases e with e | e; exact hxr e; exact hxo e)
      have hb8 : (w6.setCell ⟨r, 0, none⟩ v1).rangeAt w2.heap.size 1 [.int .i64 tv.kind, .string tv.text, .int .i64 tv.int, .float .f64 tv.real, .bool tv.flag, .slice va tv.list.length vc] := fun j u hj => by
        have := hf8.cell (hbx (j + 1) u (by simpa using hj)) hbo
        rw [show 1 + j = 0 + (j + 1) by omega]; exact this
      have ht8 := hx8.there
      obtain ⟨hr8, hfr8⟩ := hx8.put (cs := [.int .i64 tv.kind, .string tv.text, .int .i64 tv.int, .float .f64 tv.real, .bool tv.flag, .slice va tv.list.length vc]) rfl
      have k3 := k1.fr hfr8 (fun b hm e => by
        subst e
        rcases k2.2 _ hm with h5 | h5
        · rcases mem_rfp.1 h5 with h6 | h6 | h6
          · exact hxr h6
          · rw [← hnee.out] at h6; exact hxo h6
          · exact hlx3 (mem_rfp.2 (Or.inr (Or.inr h6)))
        · have := hx4.out.blk.lt; omega)
      have hw23 : Went W0 (rfp r (.slice (some ⟨g, 0, none⟩) s.es.length ce0) sT) W (rfp r (.slice ae (s.es.eraseIdx i).length ce) sT) := (Went.of_below (hbw.trans (hb3.mono hbw.size))).trans hw4.out
      have hwf : Went W0 (rfp r (.slice (some ⟨g, 0, none⟩) s.es.length ce0) sT) ((w6.setCell ⟨r, 0, none⟩ v1).setCells W0.heap.size 0 [.int .i64 tv.kind, .string tv.text, .int .i64 tv.int, .float .f64 tv.real, .bool tv.flag, .slice va tv.list.length vc]) (rfp r v1 sT) := by
        have h7 := hw23.trans k2
        exact ⟨h7.1.trans_new hfr8 (fun j hj e => by omega), h7.2⟩
      have hget : s.get key = { s with es := s.es.eraseIdx i ++ [(key, tv)] } := by
        rw [NS.get, hlk.out, erase_filter hnd hi hk.out]
      have hsz : W0.heap.size ≤ ((w6.setCell ⟨r, 0, none⟩ v1).setCells W0.heap.size 0 [.int .i64 tv.kind, .string tv.text, .int .i64 tv.int, .float .f64 tv.real, .bool tv.flag, .slice va tv.list.length vc]).heap.size := hwf.1.size
      replace ht8 := Lib.hid ht8
      replace hb8 := Lib.hid hb8
      replace hr8 := Lib.hid hr8
      replace k3 := Lib.hid k3
      replace hwf := Lib.hid hwf
      replace hget := Lib.hid hget
      replace hsz := Lib.hid hsz
      clear k1 k2 hw23 hfr8 hx8 hf8 hel2 g1 g1' g2 g3 hc0 hro hbo hbo' hxo hbx hrow
      simp only [putFrom, Act.put, List.setIfInBounds_toArray, List.set_cons_zero, List.set_cons_succ]
      go_wp2_with (first
        | (refine wpList_load_mid rfl 44 _ rfl w2.heap.size 1 rfl _ _ hb8.out Try.underlying44 rfl infoVal ?_)
        | (refine wpList_store_mid rfl 44 _ _ rfl W0.heap.size 0 _ rfl rfl ht8.out infoVal (one6 _ _ _ _ _ _ _ _) ?_))
      exact bodyPost_ret (results_cell2 (v := .agg #[.int .i64 tv.kind, .string tv.text, .int .i64 tv.int, .float .f64 tv.real, .bool tv.flag, .slice va tv.list.length vc]) rfl rfl (run_loadVar_mid (P := Try.prog) _ _ 0 44 _ _ hr8.out Try.underlying44 rfl infoVal)) rfl
        ⟨cells6 tv.kind tv.text tv.int tv.real tv.flag va tv.list.length vc, by rw [hlk.out]; rfl, by rw [hlk.out]; exact hrv.out, v1, by rw [hget.out]; exact k3.out, hwf.out, hsz.out⟩
end Go.Proofs.Ytlddjcfbapdjnaa
