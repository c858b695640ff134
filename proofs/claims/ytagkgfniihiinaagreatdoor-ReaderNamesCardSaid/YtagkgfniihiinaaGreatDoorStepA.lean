/- append(own, other...) in a region that draws (no program in sight). -/
import Derived.Test.YtagkgfniihiinaaGreatDoorBase
import Derived.Deep.RegionHeld3
namespace Go.Proofs.YtagkgfniihiinaaGreatDoor
open Go.RowKit

theorem run_append_any {P : Program} {w0 : World} {t e base size bytes n m cx : Nat} {ax : Option Addr} {v : Value} {xs news : List Value} (ty : TypeId) (E : Elem P t e size bytes)
    (hown : w0.ownsRow base e size v n xs) (hr : Reads w0 size (.slice ax m cx) m news) (hnil : ax = none → cx = 0) (h1 : news.all (fun u => u.oneCell') = true) (hn : n + m < 1000000000) (hbase : base ≤ w0.heap.size) :
    ∃ v' w', (Builtin.append_ #[t, t] ty #[v, .slice ax m cx]).run P w0 = .ok v' w' ∧ w'.ownsRow base e size v' (n + m) (xs ++ news) ∧ Fr (fun k => v.ownBlock = some k) w0 w' ∧ ∀ k, v'.ownBlock = some k → v.ownBlock = some k ∨ w0.heap.size ≤ k := by
  obtain ⟨ht, hsz, hb, i, z, hi, hz, hi1, hi2, hz1⟩ := E
  have hl := hr.len.2
  cases ax with
  | none =>
    have hm : m = 0 := by
      rcases Nat.eq_zero_or_pos m with h | h
      · exact h
      · have : 0 < news.length := by rw [hl]; exact Nat.mul_pos h hsz
        obtain ⟨b, o', ha, _⟩ := hr.at this
        cases ha
    subst hm
    have : news = [] := by simpa using hl
    subst this
    rw [hnil rfl]
    exact ⟨v, w0, run_append_owned_none w0 base t ty e i size ht hi v n xs hown, by simpa using hown, Fr.refl _ _, fun k hk => Or.inl hk⟩
  | some ad =>
    obtain ⟨v', w', hrun, g1, g2, _, g4⟩ := run_append_own_at (P := P) w0 base t ty e i z size bytes ht hi hz hi1 hi2 hz1 hsz v n xs hown ad m cx news hl (fun j u hj => by
      obtain ⟨b, o', ha, hc⟩ := hr.at (List.getElem?_eq_some_iff.1 hj).1
      cases ha
      have := hc j u hj
      unfold Addr.add
      split
      · rename_i h; rw [h] at this; simpa using this
      · exact this) (fun u hu => List.all_eq_true.1 h1 u hu) (by unfold maxLen; omega) (by
      have : (n + m) * bytes ≤ 1000000000 * 100000 := Nat.mul_le_mul (by omega) hb
      omega) hbase
    refine ⟨v', w', hrun, g1, Fr.of_grown g2, fun k hk => ?_⟩
    rcases g4 with g4 | g4
    · exact Or.inl (g4 ▸ hk)
    · rw [g4] at hk; simp at hk; exact Or.inr (by omega)
/-- .. at a step of a region that draws its order. -/
theorem step_append_any {P : Program} {w0 : World} {ops : Array Oper} {o : Oper} {a : Act} {K : Act → World → Prop} {Q : Exit → Act → World → Prop} {E' : Prop} {s x : Operand} {t e base size bytes n m cx : Nat} {ax : Option Addr} {v : Value} {xs news : List Value}
    (hgd : o.guard = none) (ho : o.op = .call { callee := .builtin .append, args := #[s, x], argTypes := #[t, t] }) (E : Elem P t e size bytes) (hs : a.eval s = v) (hown : w0.ownsRow base e size v n xs) (hx : a.eval x = .slice ax m cx)
    (hr : Reads w0 size (.slice ax m cx) m news) (hnil : ax = none → cx = 0) (h1 : news.all (fun u => u.oneCell') = true) (hn : n + m < 1000000000) (hbase : base ≤ w0.heap.size)
    (h : ∀ v' w', w'.ownsRow base e size v' (n + m) (xs ++ news) → Fr (fun k => v.ownBlock = some k) w0 w' → (∀ k, v'.ownBlock = some k → v.ownBlock = some k ∨ w0.heap.size ≤ k) → K (a.put o.dst v') w') :
    if Region.wanted o (yielded ops a.tmps) = true then Oper.wp P o a w0 K Q else E' := by
  have hw : Region.wanted o (yielded ops a.tmps) = true := by simp [Region.wanted, hgd]
  rw [if_pos hw]
  obtain ⟨v', w', hrun, g1, g2, g3⟩ := run_append_any (P := P) o.type E hown hr hnil h1 hn hbase
  unfold Oper.wp execOp
  simp only [ho, resolve, invoke, builtin, Sem.run_bind, Sem.run_pure, Result.andThen_ok, List.map_toArray, List.map_cons, List.map_nil, hs, hx, hrun]
  exact h v' w' g1 g2 g3
end Go.Proofs.YtagkgfniihiinaaGreatDoor
