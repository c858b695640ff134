/- The reader: what stands behind Parse: the stop is caught. -/
import Derived.Test.YtagkgfniihiinaaGreatDoorRdF
import Derived.Test.YtagkgfniihiinaaGreatDoorRely2
import Derived.Defers
import Derived.Recover
import Derived.Tactics2
namespace Go.Proofs.YtagkgfniihiinaaGreatDoor
open Go.RowKit

theorem catch_idle (p1 p2 p3 : Value) (w : World) :
    CallsD Tryz.prog 45 #[p1, p2, p3] .returning w fun e u' w' => e = .returned (.tuple #[]) ∧ u' = .returning ∧ w' = w := by
  refine callsD_of_wpS Tryz.func45 rfl fun c₀ cs hu => ?_
  apply wpS_seq
  apply wpS_region
  simp [wpOpsS, go_sem, recoverD, hu, Tryz.ntmps45, Exit.thenS]
  refine wpS_of_wp ?_
  go_wp2_with fail
  cases c₀
  simp_all [bodyPostS, results, Tryz.results45]
@[go_sem] theorem assert_stop (v : Value) (xT : TypeId) (w : World) : (Instr.typeAssert (.iface 68 v) xT 68 true).run Tryz.prog w = .ok (.tuple #[v, .bool true]) w := by kernel_rfl
def csR (B : Nat) (i : Nat) (w w' : World) : Prop := match i with
  | 3 => Fr (fun k => k = B) w w'
  | 4 => Fr (fun k => k = B + 1) w w'
  | 5 => Fr (fun k => k = B + 2) w w'
  | _ => w' = w
structure CsC (B : Nat) (W w : World) : Prop where
  fr : Fr (fun k => k = B ∨ k = B + 1 ∨ k = B + 2) W w
  t0 : ∃ ys : List Value, ys.length = 6 ∧ w.rangeAt B 0 ys
  k0 : Blk w B
  t1 : ∃ y, w.cell? ⟨B + 1, 0, none⟩ = some y
  k1 : Blk w (B + 1)
  t2 : ∃ y, w.cell? ⟨B + 2, 0, none⟩ = some y
  k2 : Blk w (B + 2)
theorem blk_any {w w' : World} {b : Nat} {S : Nat → Prop} (h : Blk w b) (hf : Fr S w w') (hS : ¬ S b) : Blk w' b := h.fr hf hS
theorem CsC.set0 {B : Nat} {W w w' : World} (h : CsC B W w) (hf : Fr (fun k => k = B) w w') (ht : ∃ ys : List Value, ys.length = 6 ∧ w'.rangeAt B 0 ys) (hk : Blk w' B) : CsC B W w' :=
  ⟨h.fr.trans (hf.mono (fun _ _ e => Or.inl e)), ht, hk, h.t1.imp fun _ e => hf.cell e (by show ¬ B + 1 = B; omega), h.k1.fr hf (by omega), h.t2.imp fun _ e => hf.cell e (by show ¬ B + 2 = B; omega), h.k2.fr hf (by omega)⟩
theorem CsC.set1 {B : Nat} {W w w' : World} (h : CsC B W w) (hf : Fr (fun k => k = B + 1) w w') (ht : ∃ y, w'.cell? ⟨B + 1, 0, none⟩ = some y) (hk : Blk w' (B + 1)) : CsC B W w' :=
  ⟨h.fr.trans (hf.mono (fun _ _ e => Or.inr (Or.inl e))), h.t0.imp fun _ e => ⟨e.1, fun j y hj => hf.cell (e.2 j y hj) (by show ¬ B = B + 1; omega)⟩, h.k0.fr hf (by omega), ht, hk, h.t2.imp fun _ e => hf.cell e (by show ¬ B + 2 = B + 1; omega), h.k2.fr hf (by omega)⟩
theorem CsC.set2 {B : Nat} {W w w' : World} (h : CsC B W w) (hf : Fr (fun k => k = B + 2) w w') (ht : ∃ y, w'.cell? ⟨B + 2, 0, none⟩ = some y) (hk : Blk w' (B + 2)) : CsC B W w' :=
  ⟨h.fr.trans (hf.mono (fun _ _ e => Or.inr (Or.inr e))), h.t0.imp fun _ e => ⟨e.1, fun j y hj => hf.cell (e.2 j y hj) (by show ¬ B = B + 2; omega)⟩, h.k0.fr hf (by omega), h.t1.imp fun _ e => hf.cell e (by show ¬ B + 1 = B + 2; omega), h.k1.fr hf (by omega), ht, hk⟩
namespace R2
set_option maxRecDepth 100000 in
set_option maxHeartbeats 3200000 in
theorem catch_stop {w : World} {B : Nat} {q : Nat} {c0 c1 c2 c3 c4 c5 x1 x2 : Value} (older : List PanicEntry) (hr : w.rangeAt B 0 [c0, c1, c2, c3, c4, c5]) (hk : Blk w B) (h1 : w.cell? ⟨B + 1, 0, none⟩ = some x1) (z1 : Blk w (B + 1)) (h2 : w.cell? ⟨B + 2, 0, none⟩ = some x2) (z2 : Blk w (B + 2)) :
    CallsD Tryz.prog 45 #[.pointer (some ⟨B, 0, none⟩), .pointer (some ⟨B + 1, 0, none⟩), .pointer (some ⟨B + 2, 0, none⟩)] (.panicking ({ v := .iface 68 (.agg #[.int .i64 (q : Int)]), recovered := false } :: older)) w fun e u' w' =>
      e = .returned (.tuple #[]) ∧ u' = .panicking ({ v := .iface 68 (.agg #[.int .i64 (q : Int)]), recovered := true } :: older) ∧
      w'.rangeAt B 0 [.int .i64 0, .string ⟨#[]⟩, .int .i64 0, .float .f64 0, .bool false, .slice none 0 0] ∧ w'.cell? ⟨B + 1, 0, none⟩ = some (.int .i64 0) ∧ w'.cell? ⟨B + 2, 0, none⟩ = some (.int .i64 (q : Int)) ∧ Fr (fun k => k = B ∨ k = B + 1 ∨ k = B + 2) w w' := by
  have htC := there_of (n := 6) hr hk rfl
  have hf1 := z1.frz 0 none
  have hf2 := z2.frz 0 none
  replace htC := Lib.hid htC
  refine callsD_of_wpS Tryz.func45 rfl fun c₀ cs hu => ?_
  change Code.wpS _ _ _ { tmps := #[.pointer (some ⟨B, 0, none⟩), .pointer (some ⟨B + 1, 0, none⟩), .pointer (some ⟨B + 2, 0, none⟩), undef, undef, undef, undef, undef, undef, undef, undef, undef, undef, undef, undef], defers := [] } _ _
  apply wpS_seq
  apply wpS_region
  simp [wpOpsS, go_sem, recoverD, hu, Exit.thenS]
  refine wpS_of_wp ?_
  go_upto_region 7 with fail
  obtain ⟨W, hW⟩ : ∃ W, W = w.alloc (.cells #[.int .i64 (q : Int)] 68) := ⟨_, rfl⟩
  obtain ⟨M, hM0⟩ : ∃ M, M = w.heap.size := ⟨_, rfl⟩
  have hbox : W.cell? ⟨M, 0, none⟩ = some (.int .i64 (q : Int)) := by rw [hW, hM0, World.cell?_alloc_new]; rfl
  have hB2 : B + 2 < M := by rw [hM0]; exact z2.lt
  have hM : ¬ (M = B ∨ M = B + 1 ∨ M = B + 2) := by omega
  have hbW : Below w.heap.size w W := by rw [hW]; exact (Below.refl _ _).alloc (Nat.le_refl _) _
  have hCW : CsC B W W.drew := ⟨(Fr.refl _ _).drew, ⟨_, rfl, fun j y hj => cell_below hbW _ _ (hr j y hj)⟩, (hk.of_block (hbW.block _ hk.lt)).drew, ⟨_, cell_below hbW _ _ h1⟩, (z1.of_block (hbW.block _ z1.lt)).drew, ⟨_, cell_below hbW _ _ h2⟩, (z2.of_block (hbW.block _ z2.lt)).drew⟩
  have hfW := Fr.of_below hbW
  rw [← hW, ← hM0]
  refine wp_region_rely (l := [_, _, _, _, _, _]) (CsC B W) (fun _ => True) (csR B) (fun kG_ => ([fun v _ => v = .agg #[.int .i64 0, .string ⟨#[]⟩, .int .i64 0, .float .f64 0, .bool false, .slice none 0 0], fun v _ => v = .pointer (some ⟨M, 0, none⟩), fun v _ => v = .int .i64 (q : Int), fun v w => w.rangeAt B 0 [.int .i64 0, .string ⟨#[]⟩, .int .i64 0, .float .f64 0, .bool false, .slice none 0 0], fun v w => w.cell? ⟨B + 1, 0, none⟩ = some (.int .i64 0), fun v w => w.cell? ⟨B + 2, 0, none⟩ = some (.int .i64 (q : Int))] : List (Value → World → Prop)).getD kG_ (fun _ _ => True)) (eats []) (isIn []) (by kernel_rfl) (by kernel_rfl) (by kernel_rfl) hCW trivial ?_ ?_ ?_ ?_
  · intro i kG_ u w w' hne hE hg hr
    rcases kG_ with _ | _ | _ | _ | _ | _ | kG_
    · exact hg
    · exact hg
    · exact hg
    · replace hg : (fun (v : Value) (w : World) => w.rangeAt B 0 [.int .i64 0, .string ⟨#[]⟩, .int .i64 0, .float .f64 0, .bool false, .slice none 0 0]) u w := hg
      show (fun (v : Value) (w : World) => w.rangeAt B 0 [.int .i64 0, .string ⟨#[]⟩, .int .i64 0, .float .f64 0, .bool false, .slice none 0 0]) u w'
      dsimp only at hg ⊢
      replace hE : exB _ _ i 3 = false := hE
      replace hne : 3 ≠ i := hne
      unfold csR at hr
      split at hr
      all_goals first
        | exact absurd rfl hne
        | exact absurd (hE.symm.trans (by decide +kernel : exB _ _ _ _ = true)) (by decide)
        | (subst hr; exact hg)
        | ((intro j y hj; exact hr.cell (hg j y hj) (by show ¬ B = _; omega)))
    · replace hg : (fun (v : Value) (w : World) => w.cell? ⟨B + 1, 0, none⟩ = some (.int .i64 0)) u w := hg
      show (fun (v : Value) (w : World) => w.cell? ⟨B + 1, 0, none⟩ = some (.int .i64 0)) u w'
      dsimp only at hg ⊢
      replace hE : exB _ _ i 4 = false := hE
      replace hne : 4 ≠ i := hne
      unfold csR at hr
      split at hr
      all_goals first
        | exact absurd rfl hne
        | exact absurd (hE.symm.trans (by decide +kernel : exB _ _ _ _ = true)) (by decide)
        | (subst hr; exact hg)
        | ((exact hr.cell hg (by show ¬ B + 1 = _; omega)))
    · replace hg : (fun (v : Value) (w : World) => w.cell? ⟨B + 2, 0, none⟩ = some (.int .i64 (q : Int))) u w := hg
      show (fun (v : Value) (w : World) => w.cell? ⟨B + 2, 0, none⟩ = some (.int .i64 (q : Int))) u w'
      dsimp only at hg ⊢
      replace hE : exB _ _ i 5 = false := hE
      replace hne : 5 ≠ i := hne
      unfold csR at hr
      split at hr
      all_goals first
        | exact absurd rfl hne
        | exact absurd (hE.symm.trans (by decide +kernel : exB _ _ _ _ = true)) (by decide)
        | (subst hr; exact hg)
        | ((exact hr.cell hg (by show ¬ B + 2 = _; omega)))
    · trivial
  · exact fun _ _ _ _ _ _ => trivial
  · refine ⟨?_, ?_, ?_, ?_, ?_, ?_, trivial⟩
    · refine VC.plain rfl fun a wx hf => ?_
      exact gives_value (by simp [go_sem, Tryz.underlying26]) ⟨hf.c, rfl, rfl⟩
    · refine VC.plain rfl fun a wx hf => ?_
      have s4 := hf.old 4 (by first | rfl | kernel_rfl)
      have q4 := evalQ s4
      exact gives_value (by simp [go_sem, q4]) ⟨hf.c, rfl, rfl⟩
    · refine VC.plain rfl fun a wx hf => ?_
      obtain ⟨v13, g13, s13⟩ := hf.got 1 (by kernel_rfl) (by intro j hj; simp [eats] at hj) rfl rfl
      replace s13 := s13.trans (show v13 = .pointer (some ⟨M, 0, none⟩) from g13)
      clear g13
      have q13 := evalQ s13
      exact gives_value (by simp [go_sem, q13, Fr.cell (p := ⟨M, 0, none⟩) hf.c.fr hbox hM]) ⟨hf.c, rfl, rfl⟩
    · refine VC.plain rfl fun a wx hf => ?_
      have s0 := hf.old 0 (by first | rfl | kernel_rfl)
      have q0 := evalQ s0
      obtain ⟨v12, g12, s12⟩ := hf.got 0 (by kernel_rfl) (by intro j hj; simp [eats] at hj) rfl rfl
      replace s12 := s12.trans (show v12 = .agg #[.int .i64 0, .string ⟨#[]⟩, .int .i64 0, .float .f64 0, .bool false, .slice none 0 0] from g12)
      clear g12
      have q12 := evalQ s12
      obtain ⟨ys, hy1, hy2⟩ := hf.c.t0
      have ht := there_of (n := 6) hy2 hf.c.k0 hy1.symm
      have hfw : Fr (fun k => k = B) wx (wx.setCells B 0 [.int .i64 0, .string ⟨#[]⟩, .int .i64 0, .float .f64 0, .bool false, .slice none 0 0]) := Fr.setCells (S := fun k => k = B) (fun _ => rfl) _ _ _ (Fr.refl _ _)
      have hrs := World.rangeAt_setCells_same _ _ _ [Value.int .i64 0, .string ⟨#[]⟩, .int .i64 0, .float .f64 0, .bool false, .slice none 0 0] ht
      exact gives_store_mid rfl (s0.trans rfl) s12 ht infoVal (one6 _ _ _ _ _ _ _ _) ⟨hf.c.set0 hfw ⟨_, rfl, hrs⟩ (Blk.setCells _ _ _ hf.c.k0), hfw, hrs⟩
    · refine VC.plain rfl fun a wx hf => ?_
      have s1 := hf.old 1 (by first | rfl | kernel_rfl)
      have q1 := evalQ s1
      obtain ⟨y1, hy1⟩ := hf.c.t1
      have hfw : Fr (fun k => k = B + 1) wx (wx.setCell ⟨B + 1, 0, none⟩ (.int .i64 0)) := Fr.setCell (S := fun k => k = B + 1) (Fr.refl _ _) (fun _ => rfl) _
      have hcs : (wx.setCell ⟨B + 1, 0, none⟩ (.int .i64 0)).cell? ⟨B + 1, 0, none⟩ = some (.int .i64 0) := cell_set_eq hy1
      exact gives_skip (w' := wx.setCell ⟨B + 1, 0, none⟩ (.int .i64 0)) (by simp [go_sem, q1, hy1, hf.c.k1.frz 0 none]) ⟨hf.c.set1 hfw ⟨_, hcs⟩ (hf.c.k1.setCell _ _), hfw, hcs⟩
    · refine VC.plain rfl fun a wx hf => ?_
      have s2 := hf.old 2 (by first | rfl | kernel_rfl)
      have q2 := evalQ s2
      obtain ⟨v14, g14, s14⟩ := hf.got 2 (by kernel_rfl) (by intro j hj; simp [eats] at hj) rfl rfl
      replace s14 := s14.trans (show v14 = .int .i64 (q : Int) from g14)
      clear g14
      have q14 := evalQ s14
      obtain ⟨y1, hy1⟩ := hf.c.t2
      have hfw : Fr (fun k => k = B + 2) wx (wx.setCell ⟨B + 2, 0, none⟩ (.int .i64 (q : Int))) := Fr.setCell (S := fun k => k = B + 2) (Fr.refl _ _) (fun _ => rfl) _
      have hcs : (wx.setCell ⟨B + 2, 0, none⟩ (.int .i64 (q : Int))).cell? ⟨B + 2, 0, none⟩ = some (.int .i64 (q : Int)) := cell_set_eq hy1
      exact gives_skip (w' := wx.setCell ⟨B + 2, 0, none⟩ (.int .i64 (q : Int))) (by simp [go_sem, q2, q14, hy1, hf.c.k2.frz 0 none]) ⟨hf.c.set2 hfw ⟨_, hcs⟩ (hf.c.k2.setCell _ _), hfw, hcs⟩
  · intro vs w5 hC hG
    have g3 := hG 3 (by decide) (by intro i hi; simp [eats])
    have g4 := hG 4 (by decide) (by intro i hi; simp [eats])
    have g5 := hG 5 (by decide) (by intro i hi; simp [eats])
    clear hG
    have hfin : Fr (fun k => k = B ∨ k = B + 1 ∨ k = B + 2) w w5 := Fr.trans (hfW.mono (fun i hi e => absurd hi (Nat.not_lt_of_le e))) hC.fr
    replace g3 := Lib.hid g3
    replace g4 := Lib.hid g4
    replace g5 := Lib.hid g5
    replace hfin := Lib.hid hfin
    simp only [putFrom, Act.put, List.setIfInBounds_toArray, List.set_cons_zero, List.set_cons_succ]
    go_wp2_with fail
    refine ⟨rfl, _, rfl, .tuple #[], by simp [results, Tryz.results45, go_sem], rfl, ?_, g3.out, g4.out, g5.out, hfin.out⟩
    rfl
end R2
end Go.Proofs.YtagkgfniihiinaaGreatDoor
