/- The reader: a Reader of the call's own: Feed, Next. -/
import Derived.Test.YtagkgfniihiinaaGreatDoorRdR
import Derived.Test.YtagkgfniihiinaaGreatDoorBuf
import Derived.StillTailTactics
namespace Go.Proofs.YtagkgfniihiinaaGreatDoor
open Go.RowKit

/-- A Reader of the call's own: block r, before its buffers, which are not below B: what it has not read, and its error. -/
structure Rdr (B : Nat) (w : World) (r : Nat) (v : Value) (s : ByteArray) (q : Nat) : Prop where
  c0 : w.cell? ⟨r, 0, none⟩ = some v
  c1 : w.cell? ⟨r, 1, none⟩ = some (.int .i64 (q : Int))
  blk : Blk w r
  buf : Buf B w v s
  lt : r < B
  le : B ≤ w.heap.size
theorem Rdr.below {B r q : Nat} {w w' : World} {v : Value} {s : ByteArray} (h : Rdr B w r v s q) (hb : Below w.heap.size w w') : Rdr B w' r v s q :=
  ⟨cell_below hb _ _ h.c0, cell_below hb _ _ h.c1, h.blk.of_block (hb.block _ h.blk.lt), h.buf.below hb, h.lt, Nat.le_trans h.le hb.size⟩
/-- As values that came out of reading, so a zero value. -/
def zero6 : List Value := [.int .i64 0, .string ⟨#[]⟩, .int .i64 0, .float .f64 0, .bool false, .slice none 0 0]
theorem eByteB : Elem Tryz.prog 27 5 1 1 := elem_of Tryz.underlying27 (by decide) (by decide) (by kernel_rfl)
/-- append, in a plain region. -/
theorem append_buf {ops : Array Oper} {rest : List Oper} {o : Oper} {a : Act} {Q : Exit → Act → World → Prop} {sl x : Operand} {B : Nat} {w : World} {v xv : Value} {s t : ByteArray} (hgd : o.guard = none)
    (ho : o.op = .call { callee := .builtin .append, args := #[sl, x], argTypes := #[27, 27] }) (hs : a.eval sl = v) (hR : Buf B w v s) (hx : a.eval x = xv) (hsrc : Src Tryz.prog 1 27 xv t.size (Lib.strCells t) w) (hn : s.size + t.size ≤ 140737488355328) (hB : B ≤ w.heap.size)
    (h : ∀ v' w', Buf B w' v' (s ++ t) → Fr (fun k => B ≤ k) w w' → wpList Tryz.prog ops Q rest (a.put o.dst v') w') : wpList Tryz.prog ops Q (o :: rest) a w := by
  refine wpList_plain hgd fun K hK => ?_
  obtain ⟨v', w', hrun, h1, h2, h3⟩ := run_append_buf (P := Tryz.prog) o.type eByteB hR hsrc hn hB
  unfold Oper.wp execOp
  simp only [ho, resolve, invoke, builtin, Sem.run_bind, Sem.run_pure, Result.andThen_ok, List.map_toArray, List.map_cons, List.map_nil, hs, hx, hrun]
  exact hK _ _ (h v' w' h1 (h2.mono fun k _ e => (hR.block k e).1))
set_option maxRecDepth 100000 in
set_option maxHeartbeats 1600000 in
theorem feed_ok {B r : Nat} {w : World} {v x : Value} {s t : ByteArray} (h : Rdr B w r v s 0) (hx : Src Tryz.prog 1 27 x t.size (Lib.strCells t) w) (hn : s.size + t.size ≤ 1000000000) :
    Calls Tryz.prog 26 #[.pointer (some ⟨r, 0, none⟩), x] w fun e w' => ∃ v', e = .returned (.tuple #[]) ∧ Rdr B w' r v' (s ++ t) 0 ∧ Fr (fun k => k = r ∨ B ≤ k) w w' := by
  have c0 := h.c0
  have c1 := h.c1
  have hbuf := h.buf
  have hle := h.le
  have hn2 : s.size + t.size ≤ 140737488355328 := by omega
  replace hbuf := Lib.hid hbuf
  replace hx := Lib.hid hx
  replace h := Lib.hid h
  go_enter Tryz.func26, Tryz.ntmps26
  go_wp2_with (at_builtin; refine append_buf rfl rfl rfl hbuf.out rfl hx.out hn2 hle ?_)
  intro v' w1 hb1 hf1
  obtain ⟨a', c', rfl, hac⟩ := hb1.shape
  obtain ⟨N, hN⟩ : ∃ N, N = (s ++ t).size := ⟨_, rfl⟩
  rw [← hN] at hb1 ⊢
  replace hN := Lib.hid hN
  have hlt := h.out.lt
  have c0 := hf1.cell h.out.c0 (by show ¬ B ≤ r; omega)
  have c1 := hf1.cell h.out.c1 (by show ¬ B ≤ r; omega)
  have hk := h.out.blk.fr hf1 (by show ¬ B ≤ r; omega)
  have f0 := hk.frz 0 none
  have hb1' := Lib.hid hb1
  replace hk := Lib.hid hk
  have hff := hf1.mono (T := fun k => k = r ∨ B ≤ k) (fun i _ e => .inr e)
  replace hff := Lib.hid hff
  have hsz := hf1.size
  clear hf1 hb1 hac
  go_wp2_with fail
  go_end0
  have hfr : Fr (fun k => k = r) w1 (w1.setCell ⟨r, 0, none⟩ (.slice a' N c')) := Fr.setCell (S := fun k => k = r) (Fr.refl _ _) (fun _ => rfl) _
  refine ⟨_, rfl, ⟨cell_set_eq c0, by rw [cell_set_ne (by simp)]; exact c1, hk.out.setCell _ _, hb1'.out.fr hfr (fun k hk e => by have := (hb1'.out.block k hk).1; omega), hlt, by have := hfr.size; omega⟩, hff.out.trans (hfr.mono fun i _ e => .inl e)⟩
set_option maxRecDepth 100000 in
theorem feed_err {B r q : Nat} {w : World} {v x : Value} {s : ByteArray} (h : Rdr B w r v s q) (hq : q ≠ 0) :
    Calls Tryz.prog 26 #[.pointer (some ⟨r, 0, none⟩), x] w fun e w' => e = .returned (.tuple #[]) ∧ w' = w := by
  have c1 := h.c1
  have hqb : ((q : Int) == 0) = false := by simp; omega
  replace hq := Lib.hid hq
  replace h := Lib.hid h
  go_enter Tryz.func26, Tryz.ntmps26
  go_wp2_with fail
  go_end0
  exact ⟨rfl, rfl⟩
structure CsN (M : Nat) (W w : World) : Prop where
  fr : Fr (fun k => k = M) W w
  t0 : ∃ ys : List Value, ys.length = 6 ∧ w.rangeAt M 0 ys
  k0 : Blk w M
def csN (M : Nat) (i : Nat) (w w' : World) : Prop := match i with
  | 5 => Fr (fun k => k = M) w w'
  | _ => w' = w
namespace R2
set_option maxRecDepth 100000 in
set_option maxHeartbeats 3200000 in
theorem next_err {B r q : Nat} {w : World} {v : Value} {s : ByteArray} (h : Rdr B w r v s q) (hq : q ≠ 0) :
    Calls Tryz.prog 27 #[.pointer (some ⟨r, 0, none⟩)] w fun e w' => e = .returned (.tuple #[.agg zero6.toArray, .bool false, .int .i64 (q : Int)]) ∧ Below w.heap.size w w' := by
  obtain ⟨W1, hW1⟩ : ∃ W1, W1 = w.alloc (.cells #[.int .i64 0, .string ⟨#[]⟩, .int .i64 0, .float .f64 0, .bool false, .slice none 0 0] 26) := ⟨_, rfl⟩
  have hb1 : Below w.heap.size w W1 := by rw [hW1]; exact (Below.refl _ _).alloc (Nat.le_refl _) _
  have hqb : ((q : Int) == 0) = false := by simp; omega
  have hqn : ((q : Int) != 0) = true := by simp [bne, hqb]
  have c1 := cell_below hb1 _ _ h.c1
  have r1 : W1.rangeAt w.heap.size 0 [.int .i64 0, .string ⟨#[]⟩, .int .i64 0, .float .f64 0, .bool false, .slice none 0 0] := by
    rw [hW1]; intro j y hj; rw [Nat.zero_add, World.cell?_alloc_new]; simpa using hj
  have k1 : Blk W1 w.heap.size := by rw [hW1]; exact Blk.new _ _ _
  have htC := there_of (n := 6) r1 k1 rfl
  replace hq := Lib.hid hq
  replace h := Lib.hid h
  replace hW1 := Lib.hid hW1
  replace htC := Lib.hid htC
  replace k1 := Lib.hid k1
  replace hb1 := Lib.hid hb1
  go_enter Tryz.func27, Tryz.ntmps27
  go_upto_region 1 with fail
  rw [← hW1.out]
  go_upto_region 2 with fail
  obtain ⟨M, hM⟩ : ∃ M, M = w.heap.size := ⟨_, rfl⟩
  rw [← hM] at r1 hb1 k1 htC ⊢
  have hlt : r < M := by rw [hM]; exact h.out.blk.lt
  have hrM : ¬ r = M := by omega
  have hCW : CsN M W1 W1.drew := ⟨(Fr.refl _ _).drew, ⟨_, rfl, r1⟩, k1.out.drew⟩
  refine wp_region_rely (l := [_, _, _, _, _, _, _, _]) (CsN M W1) (fun _ => True) (csN M) (fun kG_ => ([fun v _ => v = .agg #[.int .i64 0, .string ⟨#[]⟩, .int .i64 0, .float .f64 0, .bool false, .slice none 0 0], fun v _ => v = .pointer (some ⟨r, 0, none⟩), fun v _ => v = .pointer (some ⟨r, 0, none⟩), fun v _ => v = .pointer (some ⟨r, 1, none⟩), fun v _ => v = .int .i64 (q : Int), fun v w => w.rangeAt M 0 [.int .i64 0, .string ⟨#[]⟩, .int .i64 0, .float .f64 0, .bool false, .slice none 0 0], fun v _ => v = .bool false, fun v _ => v = .int .i64 (q : Int)] : List (Value → World → Prop)).getD kG_ (fun _ _ => True)) (eats []) (isIn []) (by kernel_rfl) (by kernel_rfl) (by kernel_rfl) hCW trivial ?_ ?_ ?_ ?_
  · intro i kG_ u w w' hne hE hg hr
    rcases kG_ with _ | _ | _ | _ | _ | _ | _ | _ | kG_
    · exact hg
    · exact hg
    · exact hg
    · exact hg
    · exact hg
    · replace hg : (fun (v : Value) (w : World) => w.rangeAt M 0 [.int .i64 0, .string ⟨#[]⟩, .int .i64 0, .float .f64 0, .bool false, .slice none 0 0]) u w := hg
      show (fun (v : Value) (w : World) => w.rangeAt M 0 [.int .i64 0, .string ⟨#[]⟩, .int .i64 0, .float .f64 0, .bool false, .slice none 0 0]) u w'
      dsimp only at hg ⊢
      replace hE : exB _ _ i 5 = false := hE
      replace hne : 5 ≠ i := hne
      unfold csN at hr
      split at hr
      all_goals first
        | exact absurd rfl hne
        | exact absurd (hE.symm.trans (by decide +kernel : exB _ _ _ _ = true)) (by decide)
        | (subst hr; exact hg)
        | ((intro j y hj; exact hr.cell (hg j y hj) (by show ¬ M = _; omega)))
    · exact hg
    · exact hg
    · trivial
  · exact fun _ _ _ _ _ _ => trivial
  · refine ⟨?_, ?_, ?_, ?_, ?_, ?_, ?_, ?_, trivial⟩
    · refine VC.plain rfl fun a wx hf => ?_
      exact gives_value (by simp [go_sem, Tryz.underlying26]) ⟨hf.c, rfl, rfl⟩
    · refine VC.plain rfl fun a wx hf => ?_
      have s0 := hf.old 0 (by first | rfl | kernel_rfl)
      have q0 := evalQ s0
      exact gives_value (by simp [go_sem, q0]) ⟨hf.c, rfl, rfl⟩
    · refine VC.plain rfl fun a wx hf => ?_
      obtain ⟨v14, g14, s14⟩ := hf.got 1 (by kernel_rfl) (by intro j hj; simp [eats] at hj) rfl rfl
      replace s14 := s14.trans (show v14 = .pointer (some ⟨r, 0, none⟩) from g14)
      clear g14
      have q14 := evalQ s14
      exact gives_value (by simp [go_sem, q14]) ⟨hf.c, rfl, rfl⟩
    · refine VC.plain rfl fun a wx hf => ?_
      obtain ⟨v15, g15, s15⟩ := hf.got 2 (by kernel_rfl) (by intro j hj; simp [eats] at hj) rfl rfl
      replace s15 := s15.trans (show v15 = .pointer (some ⟨r, 0, none⟩) from g15)
      clear g15
      have q15 := evalQ s15
      exact gives_value (by simp [go_sem, q15]) ⟨hf.c, rfl, rfl⟩
    · refine VC.plain rfl fun a wx hf => ?_
      obtain ⟨v16, g16, s16⟩ := hf.got 3 (by kernel_rfl) (by intro j hj; simp [eats] at hj) rfl rfl
      replace s16 := s16.trans (show v16 = .pointer (some ⟨r, 1, none⟩) from g16)
      clear g16
      have q16 := evalQ s16
      exact gives_value (by simp [go_sem, q16, Fr.cell (p := ⟨r, 1, none⟩) hf.c.fr c1 hrM]) ⟨hf.c, rfl, rfl⟩
    · refine VC.plain rfl fun a wx hf => ?_
      have s2 := hf.old 2 (by first | rfl | kernel_rfl)
      have q2 := evalQ s2
      obtain ⟨v13, g13, s13⟩ := hf.got 0 (by kernel_rfl) (by intro j hj; simp [eats] at hj) rfl rfl
      replace s13 := s13.trans (show v13 = .agg #[.int .i64 0, .string ⟨#[]⟩, .int .i64 0, .float .f64 0, .bool false, .slice none 0 0] from g13)
      clear g13
      have q13 := evalQ s13
      obtain ⟨ys, hy1, hy2⟩ := hf.c.t0
      have ht := there_of (n := 6) hy2 hf.c.k0 hy1.symm
      have hfw : Fr (fun k => k = M) wx (wx.setCells M 0 [.int .i64 0, .string ⟨#[]⟩, .int .i64 0, .float .f64 0, .bool false, .slice none 0 0]) := Fr.setCells (S := fun k => k = M) (fun _ => rfl) _ _ _ (Fr.refl _ _)
      have hrs := World.rangeAt_setCells_same _ _ _ [Value.int .i64 0, .string ⟨#[]⟩, .int .i64 0, .float .f64 0, .bool false, .slice none 0 0] ht
      exact gives_store_mid rfl (s2.trans rfl) s13 ht infoVal (one6 _ _ _ _ _ _ _ _) ⟨⟨hf.c.fr.trans hfw, ⟨_, rfl, hrs⟩, Blk.setCells _ _ _ hf.c.k0⟩, hfw, hrs⟩
    · refine VC.plain rfl fun a wx hf => ?_
      exact gives_value (by simp [go_sem]) ⟨hf.c, rfl, rfl⟩
    · refine VC.plain rfl fun a wx hf => ?_
      obtain ⟨v17, g17, s17⟩ := hf.got 4 (by kernel_rfl) (by intro j hj; simp [eats] at hj) rfl rfl
      replace s17 := s17.trans (show v17 = .int .i64 (q : Int) from g17)
      clear g17
      have q17 := evalQ s17
      exact gives_value (by simp [go_sem, q17]) ⟨hf.c, rfl, rfl⟩
  · intro vs w5 hC hG
    have g5 : w5.rangeAt M 0 [.int .i64 0, .string ⟨#[]⟩, .int .i64 0, .float .f64 0, .bool false, .slice none 0 0] := hG 5 (by decide) (by intro i hi; simp [eats])
    have g6 : vs 6 = .bool false := hG 6 (by decide) (by intro i hi; simp [eats])
    have g7 : vs 7 = .int .i64 (q : Int) := hG 7 (by decide) (by intro i hi; simp [eats])
    clear hG
    have hbel := hb1.out.trans (hC.fr.below (by rw [hM]; exact hb1.out.size) (fun i hi e => by omega))
    have e0 := g5 0 _ rfl
    have e1 := g5 1 _ rfl
    have e2 := g5 2 _ rfl
    have e3 := g5 3 _ rfl
    have e4 := g5 4 _ rfl
    have e5 := g5 5 _ rfl
    simp only [Nat.zero_add] at e0 e1 e2 e3 e4 e5
    replace hbel := Lib.hid hbel
    simp only [putFrom, Act.put, List.setIfInBounds_toArray, List.set_cons_zero, List.set_cons_succ]
    go_wp2_with fail
    refine bodyPost_ret (v := .tuple #[.agg zero6.toArray, .bool false, .int .i64 (q : Int)]) (by simp [results, Tryz.results27, go_sem, g6, g7, e0, e1, e2, e3, e4, e5, zero6]) rfl ?_
    refine ⟨rfl, ?_⟩
    have := hbel.out
    rw [hM] at this; exact this
end R2
end Go.Proofs.YtagkgfniihiinaaGreatDoor
