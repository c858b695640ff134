/- nearhandref04.Bytes of a text, and of a list of texts, in the newer protocol. -/
import Derived.Test.YtagkgfniihiinaaGreatDoorWire1
import Derived.Test.YtagkgfniihiinaaGreatDoorTx01
import Derived.Test.YtagkgfniihiinaaGreatDoorQuiet
import Derived.Test.YtagkgfniihiinaaGreatDoorBase

namespace Go.Proofs.YtagkgfniihiinaaGreatDoor
open Go.RowKit Go.Joins

set_option maxRecDepth 100000 in
theorem count4_any (n : Nat) (hn : n ≤ 1000000000000) (w : World) : Calls Tryz.prog 43 #[.int .i64 (n : Int)] w fun e w' => e = .returned (.string (itoaB n ++ ⟨#[13, 10]⟩)) ∧ Below w.heap.size w w' := by
  have hz : (itoaB n).size ≤ 21 := itoa_size n (by omega) (by omega)
  have hT := text01_any n (by omega) (by omega)
  generalize itoaB n = T at *
  replace hT := Lib.hid hT
  go_enter Tryz.func43, Tryz.ntmps43
  go_wp2_with fail
  refine (hT.out _).mono ?_
  rintro e w1 ⟨rfl, hb1⟩
  go_wp2
  go_ret
  exact ⟨rfl, hb1⟩
def bulkV (t : ByteArray) : V := .mk 4 t 0 0 false []
theorem longB_eq (t : ByteArray) : longB 36 t = ⟨#[36]⟩ ++ (itoaB t.size ++ ⟨#[13, 10]⟩) ++ t ++ ⟨#[13, 10]⟩ := by
  simp only [longB, numB, ByteArray.append_assoc]; rfl
set_option maxRecDepth 100000 in
set_option maxHeartbeats 3200000 in
theorem bytes4_bulk (t : ByteArray) (ht : t.size ≤ 1000000) (a : Option Addr) (cap : Nat) (w : World) :
    Calls Tryz.prog 22 #[.agg #[.int .i64 4, .string t, .int .i64 0, .float .f64 0, .bool false, .slice a 0 cap], .int .i64 3] w fun e w' => e = .returned (.string (longB 36 t)) ∧ Below w.heap.size w w' := by
  have hz : (itoaB t.size).size ≤ 21 := itoa_size t.size (by omega) (by omega)
  have hT := count4_any t.size (by omega)
  have hlong := longB_eq t
  obtain ⟨T, hTe⟩ : ∃ T, T = itoaB t.size ++ (⟨#[13, 10]⟩ : ByteArray) := ⟨_, rfl⟩
  have hz2 : T.size ≤ 23 := by
    have e2 : (⟨#[13, 10]⟩ : ByteArray).size = 2 := rfl
    rw [hTe, ByteArray.size_append]; omega
  rw [← hTe] at hT hlong
  clear hTe hz
  have hl1 : ¬ 9223372036854775807 < 1 + T.size := by omega
  have hl2 : ¬ 9223372036854775807 < 1 + T.size + t.size := by omega
  have hl3 : ¬ 9223372036854775807 < 1 + T.size + t.size + 2 := by omega
  replace hT := Lib.hid hT
  replace hlong := Lib.hid hlong
  go_enter Tryz.func22, Tryz.ntmps22
  go_wp2_with fail
  obtain ⟨W1, hW1⟩ : ∃ W1, W1 = w.alloc (.cells #[.int .i64 4, .string t, .int .i64 0, .float .f64 0, .bool false, .slice a 0 cap] 26) := ⟨_, rfl⟩
  have hb1 : Below w.heap.size w W1 := by rw [hW1]; exact (Below.refl _ _).alloc (Nat.le_refl _) _
  have c0 : W1.cell? ⟨w.heap.size, 0, none⟩ = some (.int .i64 4) := by rw [hW1, World.cell?_alloc_new]; rfl
  have c1 : W1.cell? ⟨w.heap.size, 1, none⟩ = some (.string t) := by rw [hW1, World.cell?_alloc_new]; rfl
  have c5 : W1.cell? ⟨w.heap.size, 5, none⟩ = some (.slice a 0 cap) := by rw [hW1, World.cell?_alloc_new]; rfl
  have hlt : w.heap.size < W1.heap.size := by rw [hW1]; simp
  rw [← hW1]
  replace hW1 := Lib.hid hW1
  go_loopw [5, 19] (fun s i wr => s = .string ⟨#[]⟩ ∧ i = .int .i64 0 ∧ wr = W1) (fun _ _ _ => 0)
  case atStart => exact ⟨rfl, rfl, rfl⟩
  case round =>
    obtain ⟨rfl, rfl, rfl⟩ := hrel
    go_wp2_with fail
    refine wp_region_grow (by kernel_rfl) (by kernel_rfl) ?_
    repeat (go_big_quiet_step ((go_at_call 43; (with_reducible exact quiet_grow (hT.out _)))))
    refine wpQuiet_nil ?_
    rintro _ ⟨xq, rfl⟩
    have hS := grow_below wr xq
    go_wp2_with fail
    go_ret
    exact ⟨by rw [hlong.out]; rfl, hb1.trans (hS.mono hb1.size)⟩
theorem commandB_eq (l : List ByteArray) : commandB l = ⟨#[42]⟩ ++ (itoaB l.length ++ ⟨#[13, 10]⟩) ++ longsB l := by
  simp only [commandB, numB, ByteArray.append_assoc]; rfl
set_option maxRecDepth 100000 in
set_option maxHeartbeats 6400000 in
theorem bytes4_arr {a : Option Addr} {n cap : Nat} {w : World} {l : List ByteArray} (hv : RV w.cell? (cells6 5 ⟨#[]⟩ 0 0 false a n cap) (.mk 5 ⟨#[]⟩ 0 0 false (l.map bulkV))) (hl : ∀ t ∈ l, t.size ≤ 1000000) (hn : n ≤ 1000) :
    Calls Tryz.prog 22 #[.agg #[.int .i64 5, .string ⟨#[]⟩, .int .i64 0, .float .f64 0, .bool false, .slice a n cap], .int .i64 3] w fun e w' => e = .returned (.string (commandB l)) ∧ Below w.heap.size w w' := by
  have lx : n = l.length := by have := hv.len.2.2.2.2.2; simpa [V.list] using this
  have hz : (itoaB n).size ≤ 21 := itoa_size n (by omega) (by omega)
  have hT := count4_any n (by omega)
  have hcom := commandB_eq l
  rw [← lx] at hcom
  obtain ⟨T, hTe⟩ : ∃ T, T = itoaB n ++ (⟨#[13, 10]⟩ : ByteArray) := ⟨_, rfl⟩
  have hz2 : T.size ≤ 23 := by
    have e2 : (⟨#[13, 10]⟩ : ByteArray).size = 2 := rfl
    rw [hTe, ByteArray.size_append]; omega
  rw [← hTe] at hT hcom
  clear hTe hz
  have hsz := longsB_size (K := 1000000) (by omega)
  have hl1 : ¬ 9223372036854775807 < 1 + T.size := by omega
  replace hT := Lib.hid hT
  replace hcom := Lib.hid hcom
  replace hsz := Lib.hid hsz
  replace hl := Lib.hid hl
  replace lx := Lib.hid lx
  go_enter Tryz.func22, Tryz.ntmps22
  go_wp2_with fail
  obtain ⟨W1, hW1⟩ : ∃ W1, W1 = w.alloc (.cells #[.int .i64 5, .string ⟨#[]⟩, .int .i64 0, .float .f64 0, .bool false, .slice a n cap] 26) := ⟨_, rfl⟩
  have hb1 : Below w.heap.size w W1 := by rw [hW1]; exact (Below.refl _ _).alloc (Nat.le_refl _) _
  have c0 : W1.cell? ⟨w.heap.size, 0, none⟩ = some (.int .i64 5) := by rw [hW1, World.cell?_alloc_new]; rfl
  have c5 : W1.cell? ⟨w.heap.size, 5, none⟩ = some (.slice a n cap) := by rw [hW1, World.cell?_alloc_new]; rfl
  have hlt : w.heap.size < W1.heap.size := by rw [hW1]; simp
  rw [← hW1]
  replace hW1 := Lib.hid hW1
  replace hb1 := Lib.hid hb1
  go_loopw [5, 19] (fun s i wr => ∃ j : Nat, j ≤ n ∧ i = .int .i64 j ∧ s = .string (longsB (l.take j)) ∧ Below W1.heap.size W1 wr) (fun _ i _ => n - (intOf i).toNat)
  case atStart => exact ⟨0, Nat.zero_le _, rfl, rfl, Below.refl _ _⟩
  case round =>
    obtain ⟨j, hj, rfl, rfl, hb2⟩ := hrel
    have e0 : wr.cell? ⟨w.heap.size, 0, none⟩ = some (.int .i64 5) := by rw [hb2.cell (by exact hlt)]; exact c0
    have e5 : wr.cell? ⟨w.heap.size, 5, none⟩ = some (.slice a n cap) := by rw [hb2.cell (by exact hlt)]; exact c5
    by_cases hjn : j < n
    · have hlti : (j : Int) < n := by omega
      have hjl : j < l.length := by have := lx.out; omega
      have hbw := hb1.out.trans (hb2.mono hb1.out.size)
      obtain ⟨b, o, hjv, a', cap', rfl, hx, d0, d1, d2, d3, d4, d5⟩ := hv.elem hjn
      have hbk := World.block_lt_of_cell? _ _ d0
      have up : ∀ (q : Nat) u, w.cell? ⟨b, q, none⟩ = some u → wr.cell? ⟨b, q, none⟩ = some u := fun q u h => by rw [hbw.cell (by exact hbk)]; exact h
      replace d0 := up _ _ d0
      replace d1 := up _ _ d1
      replace d2 := up _ _ d2
      replace d3 := up _ _ d3
      replace d4 := up _ _ d4
      replace d5 := up _ _ d5
      obtain ⟨t, ht⟩ : ∃ t, t = l[j] := ⟨_, rfl⟩
      have hbv : (l.map bulkV)[j]'(by simpa using hjl) = bulkV t := by rw [ht, List.getElem_map]
      have hbv2 : (V.mk 5 ⟨#[]⟩ 0 0 false (l.map bulkV)).list[j]'hjv = bulkV t := hbv
      rw [hbv2] at d0 d1 d2 d3 d4 d5
      replace d0 : wr.cell? ⟨b, o + j * 6, none⟩ = some (.int .i64 4) := d0
      replace d1 : wr.cell? ⟨b, o + j * 6 + 1, none⟩ = some (.string t) := d1
      replace d2 : wr.cell? ⟨b, o + j * 6 + 2, none⟩ = some (.int .i64 0) := d2
      replace d3 : wr.cell? ⟨b, o + j * 6 + 3, none⟩ = some (.float .f64 0) := d3
      replace d4 : wr.cell? ⟨b, o + j * 6 + 4, none⟩ = some (.bool false) := d4
      replace d5 : wr.cell? ⟨b, o + j * 6 + 5, none⟩ = some (.slice a' 0 cap') := d5
      have hts : l.take (j + 1) = l.take j ++ [t] := by rw [ht]; exact List.take_succ_eq_append_getElem hjl
      have ht1 : t.size ≤ 1000000 := hl.out t (by rw [ht]; exact List.getElem_mem hjl)
      have hlo := longB_size 36 t (by omega)
      have hall := hsz.out (l.take j) (fun x hx => hl.out x (List.mem_of_mem_take hx))
      have h2 : (l.take j).length * (1000000 + 26) ≤ 1000 * (1000000 + 26) := Nat.mul_le_mul_right _ (by rw [List.length_take]; omega)
      have hl5 : ¬ 9223372036854775807 < (longsB (l.take j)).size + (longB 36 t).size := by omega
      have hB := bytes4_bulk t ht1
      have hcl : longsB (l.take (j + 1)) = longsB (l.take j) ++ longB 36 t := by rw [hts, longsB_snoc]
      clear up hx hv hbv hbv2 hall h2 hlo
      generalize longsB (l.take j) = Sj at *
      replace hts := Lib.hid hts
      replace ht := Lib.hid ht
      replace hB := Lib.hid hB
      replace hb2 := Lib.hid hb2
      generalize longB 36 t = U at *
      replace hcl := Lib.hid hcl
      go_wp2_with fail
      refine (hB.out _ _ _).mono ?_
      rintro e w3 ⟨rfl, hb3⟩
      have hb4 : Below W1.heap.size W1 w3 := hb2.out.trans (((Below.refl _ _).alloc (Nat.le_refl _) _).trans (hb3.mono (by simp)) |>.mono hb2.out.size)
      clear hb2 hb3 d0 d1 d2 d3 d4 d5 e0 e5
      replace hb4 := Lib.hid hb4
      go_wp2_with fail
      go_roundw
      case rel => exact ⟨j + 1, by omega, by go_num, by rw [hcl.out], hb4.out⟩
      case measure => simp [intOf]; omega
    · have hlti : ¬ (j : Int) < n := by omega
      have hj9 : l.take j = l := List.take_of_length_le (by have := lx.out; omega)
      have hall := hsz.out l (fun x hx => hl.out x hx)
      have h2 : l.length * (1000000 + 26) ≤ 1000 * (1000000 + 26) := Nat.mul_le_mul_right _ (by have := lx.out; omega)
      have hl6 : ¬ 9223372036854775807 < 1 + T.size + (longsB l).size := by omega
      rw [hj9]
      clear hall h2 hv
      generalize longsB l = S at *
      replace hb2 := Lib.hid hb2
      go_wp2_with fail
      refine (hT.out _).mono ?_
      rintro e w3 ⟨rfl, hb3⟩
      have hb4 := hb1.out.trans (hb2.out.mono hb1.out.size)
      have hb5 := hb4.trans (hb3.mono hb4.size)
      clear hb2 hb3 hb4 e0 e5
      go_wp2_with fail
      go_ret
      exact ⟨by rw [hcom.out]; rfl, hb5⟩
end Go.Proofs.YtagkgfniihiinaaGreatDoor

/- What single operations answer, in a frame of which some slots are known: for regions shown by a fact for each operation. No program in sight. -/
namespace Go.Proofs.YtagkgfniihiinaaGreatDoor
open Go Go.RowKit

theorem Had.val {l : List Oper} {G : Nat → Value → World → Prop} {k : Nat} {a : Act} {w : World} (h : Had l G k a w) {o : Oper} {d : Tmp} (ho : l[k]? = some o) (hd : o.dst = some d) : ∃ v, G k v w ∧ a.eval (.tmp d) = v :=
  let ⟨v, h1, h2⟩ := h; ⟨v, h1, h2 o d ho hd⟩
theorem evalQ {a : Act} {t : Tmp} {v : Value} (h : a.eval (.tmp t) = v) : a.tmps[t]?.getD undef = v := by
  rw [← h]; simp [Act.eval]
/-- A slot that the region does not write. -/
theorem Finds.old {l : List Oper} {C I : World → Prop} {F : Nat → Bool} {G : Nat → Value → World → Prop} {E : Nat → Nat → Bool} {a0 : Act} {i : Nat} {o : Oper} {a : Act} {w : World} (h : Finds l C I G E F a0 i o a w) (t : Nat) (hl : l.all (fun o => o.dst != some t) = true) : a.eval (.tmp t) = a0.tmps.getD t undef :=
  h.rest t fun o ho e => by have := List.all_eq_true.1 hl o ho; rw [e] at this; simp at this
/-- What holds from the beginning, where those that end it wait for this one. -/
theorem Finds.start {l : List Oper} {C I : World → Prop} {ps : List Nat} {G : Nat → Value → World → Prop} {E : Nat → Nat → Bool} {a0 : Act} {i : Nat} {o : Oper} {a : Act} {w : World} (h : Finds l C I G E (isIn ps) a0 i o a w) (hb : ps.all (fun j => decide (j = i) || waitsB l j i) = true) : I w :=
  h.init fun j hj => by
    have := List.all_eq_true.1 hb j (by simpa [isIn] using hj)
    simpa using this
/-- What an operation that it waits for has left. -/
theorem Finds.got {l : List Oper} {C I : World → Prop} {F : Nat → Bool} {G : Nat → Value → World → Prop} {E : Nat → Nat → Bool} {a0 : Act} {i : Nat} {o : Oper} {a : Act} {w : World} (h : Finds l C I G E F a0 i o a w) (k : Nat) {ok : Oper} {d : Tmp}
    (hk : o.after.any (fun e => decide (e.on = k) && Region.binds .any e) = true) (hE : ∀ j, E j k = true → j = i) (hok : l[k]? = some ok) (hd : ok.dst = some d) : ∃ v, G k v w ∧ a.eval (.tmp d) = v := by
  obtain ⟨e, he, h1⟩ := Array.any_eq_true'.1 hk
  simp only [Bool.and_eq_true, decide_eq_true_eq] at h1
  obtain ⟨h1, h2⟩ := h1
  subst h1
  exact (h.had e he h2 hE).val hok hd
section
variable {P : Program} {o : Oper} {a : Act} {w : World} {R : Value → World → Prop}
theorem gives_fieldAddr {t : TypeId} {x : Operand} {i b off : Nat} (ho : o.op = .fieldAddr t x i) {u : Value} (hr : ∀ ρ : Operand → Value, ρ x = .pointer (some ⟨b, off, none⟩) → (execOp ρ o).run P w = .ok (.value u) w) (hx : a.eval x = .pointer (some ⟨b, off, none⟩)) (h : R u w) : gives P o a w R :=
  gives_value (hr _ hx) h
theorem gives_load_mid {ty : TypeId} {x : Operand} (ho : o.op = .load ty x) {b off : Nat} (hx : a.eval x = .pointer (some ⟨b, off, none⟩)) {cs : List Value} {d : TypeDesc} (hc : w.rangeAt b off cs) (hu : P.underlying ty = some d) (hd : d.isRow = true)
    (hi : (P.info? ty).map (·.size) = some cs.length) (h : R (.agg cs.toArray) w) : gives P o a w R := by
  refine gives_value (u := .agg cs.toArray) (w' := w) ?_ h
  unfold execOp
  simp only [ho, hx, Instr.loadAt, Instr.sureAddr, Sem.run_bind, Sem.run_pure, Result.andThen_ok, run_loadVar_mid w b off ty cs d hc hu hd hi]
theorem gives_store_mid {ty : TypeId} {x y : Operand} (ho : o.op = .store ty x y) {b off : Nat} {cells : Array Value} (hx : a.eval x = .pointer (some ⟨b, off, none⟩)) (hy : a.eval y = .agg cells) (ht : w.there b off cells.size) (hi : (P.info? ty).map (·.size) = some cells.size)
    (h1 : cells.all (·.oneCell') = true) (h : R undef (w.setCells b off cells.toList)) : gives P o a w R := by
  refine gives_skip (w' := w.setCells b off cells.toList) ?_ h
  unfold execOp
  simp only [ho, hx, hy, Instr.storeAt, Instr.sureAddr, Sem.run_bind, Sem.run_pure, Result.andThen_ok, run_storeVar_mid w b off ty cells ht hi h1]
theorem gives_append {s x : Operand} {t e base size bytes n m cx : Nat} {ax : Option Addr} {v : Value} {xs news : List Value}
    (ho : o.op = .call { callee := .builtin .append, args := #[s, x], argTypes := #[t, t] }) (E : Elem P t e size bytes)
    (hs : a.eval s = v) (hown : w.ownsRow base e size v n xs) (hx : a.eval x = .slice ax m cx) (hr : Reads w size (.slice ax m cx) m news) (hnil : ax = none → cx = 0) (h1 : news.all (fun u => u.oneCell') = true)
    (hn : n + m < 1000000000) (hbase : base ≤ w.heap.size)
    (h : ∀ v' w', w'.ownsRow base e size v' (n + m) (xs ++ news) → Fr (fun k => v.ownBlock = some k) w w' → (∀ k, v'.ownBlock = some k → v.ownBlock = some k ∨ w.heap.size ≤ k) → R v' w') : gives P o a w R := by
  obtain ⟨ht, hsz, hb, i, z, hi, hz, hi1, hi2, hz1⟩ := E
  have hl := hr.len.2
  cases ax with
  | none =>
    have hm : m = 0 := by
      rcases Nat.eq_zero_or_pos m with h | h
      · exact h
      · have : 0 < news.length := by rw [hl]; exact Nat.mul_pos h hsz
        obtain ⟨b, o', ha, _⟩ := hr.at this
        cases ha
    subst hm
    have : news = [] := by simpa using hl
    subst this
    rw [hnil rfl] at hx
    have hrun := run_append_owned_none (P := P) (w := w) base t o.type e i size ht hi v n xs hown
    refine gives_value (u := v) (w' := w) ?_ (h v w (by simpa using hown) (Fr.refl _ _) (fun k hk => Or.inl hk))
    simp [execOp, ho, resolve, invoke, builtin, hs, hx, hrun, Result.andThen]
  | some ad =>
    obtain ⟨v', w', hrn, g1, g2, _, g4⟩ := run_append_own_at (P := P) w base t o.type e i z size bytes ht hi hz hi1 hi2 hz1 hsz v n xs hown ad m cx news hl (fun j u hj => by
      obtain ⟨b, o', ha, hc⟩ := hr.at (List.getElem?_eq_some_iff.1 hj).1
      cases ha
      have := hc j u hj
      unfold Addr.add
      split
      · rename_i h; rw [h] at this; simpa using this
      · exact this) (fun u hu => List.all_eq_true.1 h1 u hu) (by unfold maxLen; omega) (by
      have : (n + m) * bytes ≤ 1000000000 * 100000 := Nat.mul_le_mul (by omega) hb
      omega) hbase
    refine gives_value (u := v') (w' := w') ?_ (h v' w' g1 (Fr.of_grown g2) (fun k hk => ?_))
    · simp only [execOp, ho, resolve, invoke, builtin, Sem.run_bind, Sem.run_pure, Result.andThen_ok, List.map_toArray, List.map_cons, List.map_nil, hs, hx, hrn]
    · rcases g4 with g4 | g4
      · exact Or.inl (g4 ▸ hk)
      · rw [g4] at hk; simp at hk; exact Or.inr (by omega)
end
end Go.Proofs.YtagkgfniihiinaaGreatDoor
