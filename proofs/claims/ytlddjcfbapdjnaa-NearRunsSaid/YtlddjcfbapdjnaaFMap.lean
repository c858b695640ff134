/- Maps in the heap, as functions; a slice appended in a region that draws its order. No number of this program's stands here. -/
import Derived.Test.YtlddjcfbapdjnaaNearV
import Derived.Deep.AppendLies
import Derived.Laws.AppendOwnNone
namespace Go.Proofs.Ytlddjcfbapdjnaa
open Go.RowKit

section
variable {κ : Type} [DecidableEq κ]
/-- Block m is a map that holds what f says. -/
def FMap (K : KeyEmb κ) (w : World) (m : Nat) (f : κ → Option Value) : Prop := ∃ l, AMap K w m l ∧ ∀ k, alook l k = f k
theorem FMap.lt {K : KeyEmb κ} {w : World} {m : Nat} {f : κ → Option Value} (h : FMap K w m f) : m < w.heap.size := let ⟨_, h, _⟩ := h; h.lt
theorem FMap.ncell {K : KeyEmb κ} {w : World} {m : Nat} {f : κ → Option Value} (h : FMap K w m f) {a : Addr} {u : Value} (hc : w.cell? a = some u) : m ≠ a.block := by
  obtain ⟨l, hl, _⟩ := h
  obtain ⟨es, c, hm, _⟩ := hl.held
  obtain ⟨cs, t, f, hb⟩ := cells_of_cell hc
  intro e
  rw [e, hb] at hm
  cases hm
theorem FMap.of_block {K : KeyEmb κ} {w w' : World} {m : Nat} {f : κ → Option Value} (h : FMap K w m f) (hb : w'.heap[m]? = w.heap[m]?) : FMap K w' m f := let ⟨l, h1, h2⟩ := h; ⟨l, h1.of_block hb, h2⟩
theorem FMap.new (K : KeyEmb κ) {w : World} {m : Nat} (h : w.heap[m]? = some (.map #[] 0)) : FMap K w m (fun _ => none) := ⟨[], ⟨by simp, #[], 0, h, rfl, by simp, by simp⟩, fun _ => rfl⟩
theorem FMap.look {K : KeyEmb κ} {P : Program} {w : World} {m : Nat} {f : κ → Option Value} (h : FMap K w m f) {t kt e : TypeId} (ht : P.underlying t = some (.map kt e)) (hk : P.underlying kt = some K.kind)
    {z : Value} (hz : ∀ W, (zeroValue e).run P W = .ok z W) (k : κ) : (Instr.lookup t (.map (some m)) (K.emb k) false).run P w = .ok ((f k).getD z) w := by
  obtain ⟨l, h1, h2⟩ := h
  have := h1.lookup ht hk hz k false
  rw [h2] at this
  exact this
theorem FMap.put {K : KeyEmb κ} {P : Program} {w : World} {m : Nat} {f : κ → Option Value} (h : FMap K w m f) {t kt e : TypeId} (ht : P.underlying t = some (.map kt e)) (hk : P.underlying kt = some K.kind) (k : κ) (v : Value) :
    ∃ o, (Instr.mapUpdate t (.map (some m)) (K.emb k) v).run P w = .ok () (setB w m o) ∧ ∀ W, W.heap[m]? = some o → FMap K W m (fun k' => if k' = k then some v else f k') := by
  obtain ⟨l, h1, h2⟩ := h
  obtain ⟨o, hr, ho⟩ := h1.update ht hk k v
  exact ⟨o, hr, fun W hW => ⟨_, ho W hW, fun k' => by rw [alook_ains h1.nodup, h2]⟩⟩
theorem alook_adel_same (l : List (κ × Value)) (k : κ) : alook (adel l k) k = none := by
  rw [alook_none, keys_adel]; simp
theorem FMap.del {K : KeyEmb κ} {P : Program} {w : World} {m : Nat} {f : κ → Option Value} (h : FMap K w m f) {t kt e : TypeId} (ht : P.underlying t = some (.map kt e)) (hk : P.underlying kt = some K.kind) (k : κ) (ts : Array TypeId) (hts : ts[0]? = some t) :
    ∃ o, (∀ T, (Builtin.delete_ ts T #[.map (some m), K.emb k]).run P w = .ok (.tuple #[]) (setB w m o)) ∧ ∀ W, W.heap[m]? = some o → FMap K W m (fun k' => if k' = k then none else f k') := by
  obtain ⟨l, h1, h2⟩ := h
  obtain ⟨o, hr, ho⟩ := h1.delete ht hk k ts 0 hts
  refine ⟨o, fun T => hr, fun W hW => ⟨_, ho W hW, fun k' => ?_⟩⟩
  show alook (adel l k) k' = if k' = k then none else f k'
  by_cases he : k' = k
  · subst he; rw [if_pos rfl]; exact alook_adel_same _ _
  · rw [if_neg he, alook_adel _ _ _ he, h2]
end

/-- append(own, other...): the run. -/
theorem run_append_any {P : Program} {w0 : World} {t e base size bytes n m cx : Nat} {ax : Option Addr} {v : Value} {xs news : List Value} (ty : TypeId) (E : Elem P t e size bytes)
    (hown : w0.ownsRow base e size v n xs) (hr : Reads w0 size (.slice ax m cx) m news) (hnil : ax = none → cx = 0) (h1 : news.all (fun u => u.oneCell') = true) (hn : n + m < 1000000000) (hbase : base ≤ w0.heap.size) :
    ∃ v' w', (Builtin.append_ #[t, t] ty #[v, .slice ax m cx]).run P w0 = .ok v' w' ∧ w'.ownsRow base e size v' (n + m) (xs ++ news) ∧ Fr (fun k => v.ownBlock = some k) w0 w' ∧ ∀ k, v'.ownBlock = some k → v.ownBlock = some k ∨ w0.heap.size ≤ k := by
  obtain ⟨ht, hsz, hb, i, z, hi, hz, hi1, hi2, hz1⟩ := E
  have hl := hr.len.2
  cases ax with
  | none =>
    have hm : m = 0 := by
      rcases Nat.eq_zero_or_pos m with h | h
      · exact h
      · have : 0 < news.length := by rw [hl]; exact Nat.mul_pos h hsz
        obtain ⟨b, o', ha, _⟩ := hr.at this
        cases ha
    subst hm
    have : news = [] := by simpa using hl
    subst this
    rw [hnil rfl]
    exact ⟨v, w0, run_append_owned_none w0 base t ty e i size ht hi v n xs hown, by simpa using hown, Fr.refl _ _, fun k hk => Or.inl hk⟩
  | some ad =>
    obtain ⟨v', w', hrun, g1, g2, _, g4⟩ := run_append_own_at (P := P) w0 base t ty e i z size bytes ht hi hz hi1 hi2 hz1 hsz v n xs hown ad m cx news hl (fun j u hj => by
      obtain ⟨b, o', ha, hc⟩ := hr.at (List.getElem?_eq_some_iff.1 hj).1
      cases ha
      have := hc j u hj
      unfold Addr.add
      split
      · rename_i h; rw [h] at this; simpa using this
      · exact this) (fun u hu => List.all_eq_true.1 h1 u hu) (by unfold maxLen; omega) (by
      have : (n + m) * bytes ≤ 1000000000 * 100000 := Nat.mul_le_mul (by omega) hb
      omega) hbase
    refine ⟨v', w', hrun, g1, Fr.of_grown g2, fun k hk => ?_⟩
    rcases g4 with g4 | g4
    · exact Or.inl (g4 ▸ hk)
    · rw [g4] at hk; simp at hk; exact Or.inr (by omega)
/-- .. at a step of a region that draws its order. -/
theorem step_append_any {P : Program} {w0 : World} {ops : Array Oper} {o : Oper} {a : Act} {K : Act → World → Prop} {Q : Exit → Act → World → Prop} {E' : Prop} {s x : Operand} {t e base size bytes n m cx : Nat} {ax : Option Addr} {v : Value} {xs news : List Value}
    (hgd : o.guard = none) (ho : o.op = .call { callee := .builtin .append, args := #[s, x], argTypes := #[t, t] }) (E : Elem P t e size bytes) (hs : a.eval s = v) (hown : w0.ownsRow base e size v n xs) (hx : a.eval x = .slice ax m cx)
    (hr : Reads w0 size (.slice ax m cx) m news) (hnil : ax = none → cx = 0) (h1 : news.all (fun u => u.oneCell') = true) (hn : n + m < 1000000000) (hbase : base ≤ w0.heap.size)
    (h : ∀ v' w', w'.ownsRow base e size v' (n + m) (xs ++ news) → Fr (fun k => v.ownBlock = some k) w0 w' → (∀ k, v'.ownBlock = some k → v.ownBlock = some k ∨ w0.heap.size ≤ k) → K (a.put o.dst v') w') :
    if Region.wanted o (yielded ops a.tmps) = true then Oper.wp P o a w0 K Q else E' := by
  have hw : Region.wanted o (yielded ops a.tmps) = true := by simp [Region.wanted, hgd]
  rw [if_pos hw]
  obtain ⟨v', w', hrun, g1, g2, g3⟩ := run_append_any (P := P) o.type E hown hr hnil h1 hn hbase
  unfold Oper.wp execOp
  simp only [ho, resolve, invoke, builtin, Sem.run_bind, Sem.run_pure, Result.andThen_ok, List.map_toArray, List.map_cons, List.map_nil, hs, hx, hrun]
  exact h v' w' g1 g2 g3
end Go.Proofs.Ytlddjcfbapdjnaa
