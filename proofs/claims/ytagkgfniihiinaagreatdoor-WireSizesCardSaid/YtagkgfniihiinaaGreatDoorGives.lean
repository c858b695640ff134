/- What single operations answer, in a frame of which some slots are known: for regions shown by a fact for each operation. No program in sight. -/
import Derived.Test.YtagkgfniihiinaaGreatDoorBase
import Derived.Test.YtagkgfniihiinaaGreatDoorQuiet
namespace Go.Proofs.YtagkgfniihiinaaGreatDoor
open Go Go.RowKit
theorem Had.val {l : List Oper} {G : Nat -> Value -> World -> Prop} {k : Nat} {a : Act} {w : World} (h : Had l G k a w) {o : Oper} {d : Tmp} (ho : l[k]? = some o) (hd : o.dst = some d) : ∃ v, G k v w /\ a.eval (.tmp d) = v :=
 let ⟨v, h1, h2⟩ := h; ⟨v, h1, h2 o d ho hd⟩
theorem Ah {a : Act} {t : Tmp} {v : Value} (h : a.eval (.tmp t) = v) : a.tmps[t]?.getD undef = v := by
 rw [<- h]; simp [Act.eval]
theorem Finds.old {l : List Oper} {C I : World -> Prop} {F : Nat -> Bool} {G : Nat -> Value -> World -> Prop} {E : Nat -> Nat -> Bool} {a0 : Act} {i : Nat} {o : Oper} {a : Act} {w : World} (h : Finds l C I G E F a0 i o a w) (t : Nat) (hl : l.all (fun o => o.dst != some t) = true) : a.eval (.tmp t) = a0.tmps.getD t undef :=
 h.rest t fun o ho e => by have := List.all_eq_true.1 hl o ho; rw [e] at this; simp at this
theorem Finds.start {l : List Oper} {C I : World -> Prop} {ps : List Nat} {G : Nat -> Value -> World -> Prop} {E : Nat -> Nat -> Bool} {a0 : Act} {i : Nat} {o : Oper} {a : Act} {w : World} (h : Finds l C I G E (isIn ps) a0 i o a w) (hb : ps.all (fun j => decide (j = i) || Ev l j i) = true) : I w :=
 h.init fun j hj => by
   have := List.all_eq_true.1 hb j (by simpa [isIn] using hj)
   simpa using this
theorem Finds.got {l : List Oper} {C I : World -> Prop} {F : Nat -> Bool} {G : Nat -> Value -> World -> Prop} {E : Nat -> Nat -> Bool} {a0 : Act} {i : Nat} {o : Oper} {a : Act} {w : World} (h : Finds l C I G E F a0 i o a w) (k : Nat) {ok : Oper} {d : Tmp}
   (hk : o.after.any (fun e => decide (e.on = k) && Region.binds .any e) = true) (hE : ∀ j, E j k = true -> j = i) (hok : l[k]? = some ok) (hd : ok.dst = some d) : ∃ v, G k v w /\ a.eval (.tmp d) = v := by
 obtain ⟨e, he, h1⟩ := Array.any_eq_true'.1 hk
 simp only [Bool.and_eq_true, decide_eq_true_eq] at h1
 obtain ⟨h1, h2⟩ := h1
 subst h1
 exact (h.had e he h2 hE).val hok hd
section
variable {P : Program} {o : Oper} {a : Act} {w : World} {R : Value -> World -> Prop}
theorem Bo {ty : TypeId} {x : Operand} (ho : o.op = .load ty x) {b off : Nat} (hx : a.eval x = .pointer (some ⟨b, off, none⟩)) {cs : List Value} {d : TypeDesc} (hc : w.rangeAt b off cs) (hu : P.underlying ty = some d) (hd : d.isRow = true)
   (hi : (P.info? ty).map (·.size) = some cs.length) (h : R (.agg cs.toArray) w) : Cg P o a w R := by
 refine Ac (u := .agg cs.toArray) (w' := w) ?_ h
 unfold execOp
 simp only [ho, hx, Instr.loadAt, Instr.sureAddr, Sem.run_bind, Sem.run_pure, Result.andThen_ok, run_loadVar_mid w b off ty cs d hc hu hd hi]
theorem Fc {ty : TypeId} {x y : Operand} (ho : o.op = .store ty x y) {b off : Nat} {cells : Array Value} (hx : a.eval x = .pointer (some ⟨b, off, none⟩)) (hy : a.eval y = .agg cells) (ht : w.there b off cells.size) (hi : (P.info? ty).map (·.size) = some cells.size)
   (h1 : cells.all (·.oneCell') = true) (h : R undef (w.setCells b off cells.toList)) : Cg P o a w R := by
 refine Cw (w' := w.setCells b off cells.toList) ?_ h
 unfold execOp
 simp only [ho, hx, hy, Instr.storeAt, Instr.sureAddr, Sem.run_bind, Sem.run_pure, Result.andThen_ok, run_storeVar_mid w b off ty cells ht hi h1]
theorem Cp {s x : Operand} {t e base size bytes n m cx : Nat} {ax : Option Addr} {v : Value} {xs news : List Value}
   (ho : o.op = .call { callee := .builtin .append, args := #[s, x], argTypes := #[t, t] }) (E : Elem P t e size bytes)
   (hs : a.eval s = v) (hown : w.ownsRow base e size v n xs) (hx : a.eval x = .slice ax m cx) (hr : Reads w size (.slice ax m cx) m news) (hnil : ax = none -> cx = 0) (h1 : news.all (fun u => u.oneCell') = true)
   (hn : n + m < 1000000000) (hbase : base <= w.heap.size)
   (h : ∀ v' w', w'.ownsRow base e size v' (n + m) (xs ++ news) -> Fr (fun k => v.ownBlock = some k) w w' -> (∀ k, v'.ownBlock = some k -> v.ownBlock = some k \/ w.heap.size <= k) -> R v' w') : Cg P o a w R := by
 obtain ⟨ht, hsz, hb, i, z, hi, hz, hi1, hi2, hz1⟩ := E
 have hl := hr.len.2
 cases ax with
 | none =>
   have hm : m = 0 := by
     rcases Nat.eq_zero_or_pos m with h | h
     · exact h
     · have : 0 < news.length := by rw [hl]; exact Nat.mul_pos h hsz
       obtain ⟨b, o', ha, _⟩ := hr.at this
       cases ha
   subst hm
   have : news = [] := by simpa using hl
   subst this
   rw [hnil rfl] at hx
   have hrun := run_append_owned_none (P := P) (w := w) base t o.type e i size ht hi v n xs hown
   refine Ac (u := v) (w' := w) ?_ (h v w (by simpa using hown) (Fr.refl _ _) (fun k hk => Or.inl hk))
   simp [execOp, ho, resolve, invoke, builtin, hs, hx, hrun, Result.andThen]
 | some ad =>
   obtain ⟨v', w', hrn, g1, g2, _, g4⟩ := run_append_own_at (P := P) w base t o.type e i z size bytes ht hi hz hi1 hi2 hz1 hsz v n xs hown ad m cx news hl (fun j u hj => by
     obtain ⟨b, o', ha, hc⟩ := hr.at (List.getElem?_eq_some_iff.1 hj).1
     cases ha
     have := hc j u hj
     unfold Addr.add
     split
     · rename_i h; rw [h] at this; simpa using this
     · exact this) (fun u hu => List.all_eq_true.1 h1 u hu) (by unfold maxLen; omega) (by
     have : (n + m) * bytes <= 1000000000 * 100000 := Nat.mul_le_mul (by omega) hb
     omega) hbase
   refine Ac (u := v') (w' := w') ?_ (h v' w' g1 (Fr.of_grown g2) (fun k hk => ?_))
   · simp only [execOp, ho, resolve, invoke, builtin, Sem.run_bind, Sem.run_pure, Result.andThen_ok, List.map_toArray, List.map_cons, List.map_nil, hs, hx, hrn]
   · rcases g4 with g4 | g4
     · exact Or.inl (g4 ▸ hk)
     · rw [g4] at hk; simp at hk; exact Or.inr (by omega)
end
end Go.Proofs.YtagkgfniihiinaaGreatDoor
