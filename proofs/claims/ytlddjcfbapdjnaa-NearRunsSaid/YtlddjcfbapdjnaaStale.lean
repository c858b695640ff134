/- NearStale: what it keeps beside, and its walk. -/
import Derived.Test.YtlddjcfbapdjnaaLaw23
import Derived.Test.YtlddjcfbapdjnaaFMap
namespace Go.Proofs.Ytlddjcfbapdjnaa
open Go.RowKit

theorem NH.setm {B : Nat} {w0 w : World} {nb : Nat} {fp : List Nat} {s : NS} (h : NH B w0 w nb fp s) {m : Nat} (o : Obj) (hm : B ≤ m) (hmo : m ∉ fp) (hc : ∀ a u, w.cell? a = some u → m ≠ a.block) : NH B w0 (setB w m o) nb fp s := by
  have hf := setB_fr (w := w) m o
  obtain ⟨rb, m', vb, tb, ns, hn⟩ := h.near
  refine ⟨⟨rb, m', vb, tb, ns, hn.fr hf (fun b hb hmm => hmo (by simp at hmm; rw [← hmm]; exact hb)) (fun a u hu => ?_)⟩, h.own, h.bel.trans (hf.below h.le (fun i hi hmm => by simp at hmm; omega)), by simpa [Proofs.Ytlddjcfbapdjnaa.setB] using h.le⟩
  obtain ⟨h1, h2⟩ := off_cell hu
  unfold off
  rw [if_neg h2, setB_cell (hc _ _ h1)]; exact h1
/-- The three maps of the call's own. -/
structure M3 (B : Nat) (w : World) (fp : List Nat) (mA mB mK : Nat) (fA : ByteArray → Option Int) (fB : Int → Option Int) (fK : Int → Option ByteArray) : Prop where
  fa : FMap strKey w mA (fun k => (fA k).map (Value.int .i64))
  fb : FMap intKey w mB (fun t => (fB t).map (Value.int .i64))
  fk : FMap intKey w mK (fun t => (fK t).map Value.string)
  ownA : B ≤ mA
  ownB : B ≤ mB
  ownK : B ≤ mK
  outA : mA ∉ fp
  outB : mB ∉ fp
  outK : mK ∉ fp
  ab : mA ≠ mB
  ak : mA ≠ mK
  bk : mB ≠ mK
theorem M3.went {B : Nat} {w w' : World} {fp fp' : List Nat} {mA mB mK : Nat} {fA : ByteArray → Option Int} {fB : Int → Option Int} {fK : Int → Option ByteArray} (h : M3 B w fp mA mB mK fA fB fK) (hw : Went w fp w' fp') : M3 B w' fp' mA mB mK fA fB fK := by
  have key : ∀ m, m < w.heap.size → m ∉ fp → m ∉ fp' := fun m hm ho h' => by
    rcases hw.2 m h' with h1 | h1
    · exact ho h1
    · omega
  exact ⟨h.fa.of_block (hw.1.block _ h.fa.lt h.outA), h.fb.of_block (hw.1.block _ h.fb.lt h.outB), h.fk.of_block (hw.1.block _ h.fk.lt h.outK), h.ownA, h.ownB, h.ownK, key _ h.fa.lt h.outA, key _ h.fb.lt h.outB, key _ h.fk.lt h.outK, h.ab, h.ak, h.bk⟩
theorem M3.below {B : Nat} {w w' : World} {fp : List Nat} {mA mB mK : Nat} {fA : ByteArray → Option Int} {fB : Int → Option Int} {fK : Int → Option ByteArray} (h : M3 B w fp mA mB mK fA fB fK) (hb : Below w.heap.size w w') : M3 B w' fp mA mB mK fA fB fK := h.went (Went.of_below hb)
theorem map_upd {κ α : Type} [DecidableEq κ] (f : κ → Option α) (g : α → Value) (k : κ) (v : α) : (fun k' => if k' = k then some (g v) else (f k').map g) = fun k' => (if k' = k then some v else f k').map g := by
  funext k'; split <;> rfl
theorem map_del {κ α : Type} [DecidableEq κ] (f : κ → Option α) (g : α → Value) (k : κ) : (fun k' => if k' = k then none else (f k').map g) = fun k' => (if k' = k then none else f k').map g := by
  funext k'; split <;> rfl
theorem M3.putA {B : Nat} {w : World} {fp : List Nat} {mA mB mK : Nat} {fA : ByteArray → Option Int} {fB : Int → Option Int} {fK : Int → Option ByteArray} (h : M3 B w fp mA mB mK fA fB fK) (k : ByteArray) (v : Int) :
    ∃ o, (Instr.mapUpdate 54 (.map (some mA)) (.string k) (.int .i64 v)).run Try.prog w = .ok () (setB w mA o) ∧ M3 B (setB w mA o) fp mA mB mK (fun k' => if k' = k then some v else fA k') fB fK := by
  obtain ⟨o, hr, ho⟩ := h.fa.put (P := Try.prog) Try.underlying54 Try.underlying9 k (.int .i64 v)
  refine ⟨o, hr, ?_, h.fb.of_block (setB_other o h.ab), h.fk.of_block (setB_other o h.ak), h.ownA, h.ownB, h.ownK, h.outA, h.outB, h.outK, h.ab, h.ak, h.bk⟩
  have := ho (setB w mA o) (setB_at o h.fa.lt)
  rw [map_upd] at this; exact this
theorem M3.putB {B : Nat} {w : World} {fp : List Nat} {mA mB mK : Nat} {fA : ByteArray → Option Int} {fB : Int → Option Int} {fK : Int → Option ByteArray} (h : M3 B w fp mA mB mK fA fB fK) (t v : Int) :
    ∃ o, (Instr.mapUpdate 55 (.map (some mB)) (.int .i64 t) (.int .i64 v)).run Try.prog w = .ok () (setB w mB o) ∧ M3 B (setB w mB o) fp mA mB mK fA (fun t' => if t' = t then some v else fB t') fK := by
  obtain ⟨o, hr, ho⟩ := h.fb.put (P := Try.prog) Try.underlying55 Try.underlying3 t (.int .i64 v)
  refine ⟨o, hr, h.fa.of_block (setB_other o h.ab.symm), ?_, h.fk.of_block (setB_other o h.bk), h.ownA, h.ownB, h.ownK, h.outA, h.outB, h.outK, h.ab, h.ak, h.bk⟩
  have := ho (setB w mB o) (setB_at o h.fb.lt)
  rw [map_upd] at this; exact this
theorem M3.delB {B : Nat} {w : World} {fp : List Nat} {mA mB mK : Nat} {fA : ByteArray → Option Int} {fB : Int → Option Int} {fK : Int → Option ByteArray} (h : M3 B w fp mA mB mK fA fB fK) (t : Int) :
    ∃ o, (∀ T, (Builtin.delete_ #[55, 3] T #[.map (some mB), .int .i64 t]).run Try.prog w = .ok (.tuple #[]) (setB w mB o)) ∧ M3 B (setB w mB o) fp mA mB mK fA (fun t' => if t' = t then none else fB t') fK := by
  obtain ⟨o, hr, ho⟩ := h.fb.del (P := Try.prog) Try.underlying55 Try.underlying3 t #[55, 3] rfl
  refine ⟨o, hr, h.fa.of_block (setB_other o h.ab.symm), ?_, h.fk.of_block (setB_other o h.bk), h.ownA, h.ownB, h.ownK, h.outA, h.outB, h.outK, h.ab, h.ak, h.bk⟩
  have := ho (setB w mB o) (setB_at o h.fb.lt)
  rw [map_del] at this; exact this
theorem M3.putK {B : Nat} {w : World} {fp : List Nat} {mA mB mK : Nat} {fA : ByteArray → Option Int} {fB : Int → Option Int} {fK : Int → Option ByteArray} (h : M3 B w fp mA mB mK fA fB fK) (t : Int) (v : ByteArray) :
    ∃ o, (Instr.mapUpdate 56 (.map (some mK)) (.int .i64 t) (.string v)).run Try.prog w = .ok () (setB w mK o) ∧ M3 B (setB w mK o) fp mA mB mK fA fB (fun t' => if t' = t then some v else fK t') := by
  obtain ⟨o, hr, ho⟩ := h.fk.put (P := Try.prog) Try.underlying56 Try.underlying3 t (.string v)
  refine ⟨o, hr, h.fa.of_block (setB_other o h.ak.symm), h.fb.of_block (setB_other o h.bk.symm), ?_, h.ownA, h.ownB, h.ownK, h.outA, h.outB, h.outK, h.ab, h.ak, h.bk⟩
  have := ho (setB w mK o) (setB_at o h.fk.lt)
  rw [map_upd] at this; exact this
theorem M3.lookA {B : Nat} {w : World} {fp : List Nat} {mA mB mK : Nat} {fA : ByteArray → Option Int} {fB : Int → Option Int} {fK : Int → Option ByteArray} (h : M3 B w fp mA mB mK fA fB fK) (k : ByteArray) :
    (Instr.lookup 54 (.map (some mA)) (.string k) false).run Try.prog w = .ok (.int .i64 ((fA k).getD 0)) w := by
  have := h.fa.look (P := Try.prog) Try.underlying54 Try.underlying9 (z := .int .i64 0) (fun W => by kernel_rfl) k
  cases hk : fA k <;> rw [hk] at this <;> exact this
theorem M3.lookB {B : Nat} {w : World} {fp : List Nat} {mA mB mK : Nat} {fA : ByteArray → Option Int} {fB : Int → Option Int} {fK : Int → Option ByteArray} (h : M3 B w fp mA mB mK fA fB fK) (t : Int) :
    (Instr.lookup 55 (.map (some mB)) (.int .i64 t) false).run Try.prog w = .ok (.int .i64 ((fB t).getD 0)) w := by
  have := h.fb.look (P := Try.prog) Try.underlying55 Try.underlying3 (z := .int .i64 0) (fun W => by kernel_rfl) t
  cases hk : fB t <;> rw [hk] at this <;> exact this
theorem M3.lookK {B : Nat} {w : World} {fp : List Nat} {mA mB mK : Nat} {fA : ByteArray → Option Int} {fB : Int → Option Int} {fK : Int → Option ByteArray} (h : M3 B w fp mA mB mK fA fB fK) (t : Int) :
    (Instr.lookup 56 (.map (some mK)) (.int .i64 t) false).run Try.prog w = .ok (.string ((fK t).getD ⟨#[]⟩)) w := by
  have := h.fk.look (P := Try.prog) Try.underlying56 Try.underlying3 (z := .string ⟨#[]⟩) (fun W => by kernel_rfl) t
  cases hk : fK t <;> rw [hk] at this <;> exact this

/-! ### the plain law -/
/-- What holds of it ahead of act i. -/
structure SI (s : NS) (fA : ByteArray → Option Int) (fB : Int → Option Int) (fK : Int → Option ByteArray) (clears : Int) (i : Nat) (most : Int) : Prop where
  inv : ∀ p ∈ s.ts, ∃ b, fB p.1 = some b ∧ fK p.1 = some p.2 ∧ clears < b ∧ ∀ g, fA p.2 = some g → g < b
  ra : ∀ k g, fA k = some g → g ≤ i
  rc : 0 ≤ clears ∧ clears ≤ i
  len : (s.es.length : Int) ≤ s.most
  most : s.most = max most 0
  last : 0 ≤ s.last ∧ s.last ≤ i
  tlt : ∀ p ∈ s.ts, p.1 ≤ s.last
theorem SI.next {s : NS} {fA : ByteArray → Option Int} {fB : Int → Option Int} {fK : Int → Option ByteArray} {clears : Int} {i : Nat} {most : Int} (h : SI s fA fB fK clears i most) : SI s fA fB fK clears (i + 1) most :=
  ⟨h.inv, fun k g hk => by have := h.ra k g hk; omega, by have := h.rc; omega, h.len, h.most, by have := h.last; omega, h.tlt⟩
theorem SI.begin {s : NS} {fA : ByteArray → Option Int} {fB : Int → Option Int} {fK : Int → Option ByteArray} {clears : Int} {i : Nat} {most : Int} (h : SI s fA fB fK clears i most) (k : ByteArray) :
    SI (s.begin k) fA (fun t => if t = s.last + 1 then some ((i : Int) + 1) else fB t) (fun t => if t = s.last + 1 then some k else fK t) clears (i + 1) most := by
  refine ⟨fun p hp => ?_, fun k g hk => by have := h.ra k g hk; omega, by have := h.rc; omega, h.len, h.most, by have := h.last; show 0 ≤ s.last + 1 ∧ s.last + 1 ≤ _; omega, fun p hp => ?_⟩
  · rcases List.mem_append.1 hp with hp | hp
    · have := h.tlt p hp
      rw [if_neg (by omega), if_neg (by omega)]
      exact h.inv p hp
    · simp at hp; subst hp
      exact ⟨i + 1, by simp, by simp, by have := h.rc; omega, fun g hg => by have := h.ra _ g hg; omega⟩
  · rcases List.mem_append.1 hp with hp | hp
    · have := h.tlt p hp; show p.1 ≤ s.last + 1; omega
    · simp at hp; subst hp; exact Int.le_refl _
theorem put_len (s : NS) (k : ByteArray) (v : V) (h : (s.es.length : Int) ≤ s.most) : ((s.put k v).es.length : Int) ≤ s.most := by
  have h1 : (putE s.es k v).length ≤ s.es.length + 1 := by
    rw [putE, List.length_append]
    have := List.length_filter_le (fun p : ByteArray × V => decide (p.1 ≠ k)) s.es
    simp only [List.length_singleton]; omega
  unfold NS.put
  simp only
  split
  · rw [List.length_tail]; omega
  · omega
theorem SI.fill {s : NS} {fA : ByteArray → Option Int} {fB : Int → Option Int} {fK : Int → Option ByteArray} {clears : Int} {i : Nat} {most : Int} (h : SI s fA fB fK clears i most) (t : Int) (v : V) :
    SI (s.fill t v) fA (fun t' => if t' = t then none else fB t') fK clears (i + 1) most := by
  have hts : (s.fill t v).ts = s.ts.filter (fun p => p.1 ≠ t) ∧ (s.fill t v).last = s.last ∧ (s.fill t v).most = s.most ∧ ((s.fill t v).es.length : Int) ≤ s.most := by
    unfold NS.fill
    split
    · exact ⟨rfl, rfl, rfl, h.len⟩
    · split
      · exact ⟨rfl, rfl, rfl, h.len⟩
      · exact ⟨rfl, rfl, rfl, put_len (s.without t) _ v h.len⟩
  obtain ⟨h1, h2, h3, h4⟩ := hts
  refine ⟨fun p hp => ?_, fun k g hk => by have := h.ra k g hk; omega, by have := h.rc; omega, by rw [h3]; exact h4, by rw [h3]; exact h.most, by rw [h2]; have := h.last; omega, fun p hp => ?_⟩
  · rw [h1] at hp
    obtain ⟨hp1, hp2⟩ := List.mem_filter.1 hp
    simp at hp2
    simp only [hp2, if_false]
    exact h.inv p hp1
  · rw [h1] at hp
    rw [h2]; exact h.tlt p (List.mem_filter.1 hp).1
theorem SI.old {s : NS} {fA : ByteArray → Option Int} {fB : Int → Option Int} {fK : Int → Option ByteArray} {clears : Int} {i : Nat} {most : Int} (h : SI s fA fB fK clears i most) {t : Int} (ht : s.fills t = true) :
    ¬ (fB t).getD 0 ≤ max ((fA ((fK t).getD ⟨#[]⟩)).getD 0) clears := by
  simp only [NS.fills, Bool.and_eq_true] at ht
  obtain ⟨k, hk⟩ := Option.isSome_iff_exists.1 ht.1
  obtain ⟨b, h1, h2, h3, h4⟩ := h.inv _ (lookT_mem hk)
  rw [h1, h2]
  simp only [Option.getD_some]
  have hr := h.rc
  cases hA : fA k with
  | none => simp only [Option.getD_none]; omega
  | some g => have := h4 g hA; simp only [Option.getD_some]; omega
theorem SI.drop {s : NS} {fA : ByteArray → Option Int} {fB : Int → Option Int} {fK : Int → Option ByteArray} {clears : Int} {i : Nat} {most : Int} (h : SI s fA fB fK clears i most) (k : ByteArray) :
    SI (s.drop k) (fun k' => if k' = k then some ((i : Int) + 1) else fA k') fB fK clears (i + 1) most := by
  refine ⟨fun p hp => ?_, fun k' g hk => ?_, by have := h.rc; omega, ?_, h.most, by have := h.last; show 0 ≤ s.last ∧ s.last ≤ _; omega, fun p hp => h.tlt p (List.mem_filter.1 hp).1⟩
  · obtain ⟨hp1, hp2⟩ := List.mem_filter.1 hp
    simp at hp2
    simp only [hp2, if_false]
    exact h.inv p hp1
  · split at hk
    · cases hk; omega
    · have := h.ra k' g hk; omega
  · have := List.length_filter_le (fun p : ByteArray × V => decide (p.1 ≠ k)) s.es
    have h2 := h.len
    show ((s.es.filter _).length : Int) ≤ s.most
    omega
theorem SI.clear {s : NS} {fA : ByteArray → Option Int} {fB : Int → Option Int} {fK : Int → Option ByteArray} {clears : Int} {i : Nat} {most : Int} (h : SI s fA fB fK clears i most) : SI s.clear fA fB fK ((i : Int) + 1) (i + 1) most :=
  ⟨fun p hp => by simp [NS.clear] at hp, fun k g hk => by have := h.ra k g hk; omega, by omega, by have := h.most; show ((0 : Nat) : Int) ≤ s.most; omega, h.most, by have := h.last; show 0 ≤ s.last ∧ s.last ≤ _; omega, fun p hp => by simp [NS.clear] at hp⟩
theorem drop_gone (s : NS) (k : ByteArray) : lookE (s.drop k).es k = none := by
  rw [lookE_none]
  simp [NS.drop]

theorem Box.get {w : World} {b : Nat} {fp : List Nat} {cs : List Value} (h : Box w b fp cs) (j : Nat) {u : Value} (hj : cs[j]? = some u) : w.cell? ⟨b, j, none⟩ = some u := by simpa using h.cells j u hj
theorem Box.setm {w : World} {b : Nat} {fp : List Nat} {cs : List Value} (h : Box w b fp cs) {m : Nat} (o : Obj) (hc : ∀ a u, w.cell? a = some u → m ≠ a.block) : Box (setB w m o) b fp cs :=
  ⟨fun j v hv => by rw [setB_cell (hc _ _ (h.cells j v hv))]; exact h.cells j v hv, by simpa [Proofs.Ytlddjcfbapdjnaa.setB] using h.lt, h.out⟩
/-! ### the acts -/
structure Act23 where
  kind : Int
  n : Int
  key : ByteArray
  v : V
  a : Option Addr
  cap : Nat
def Act23.cells (x : Act23) : List Value := [.int .i64 x.kind, .int .i64 x.n, .string x.key, .int .i64 x.v.kind, .string x.v.text, .int .i64 x.v.int, .float .f64 x.v.real, .bool x.v.flag, .slice x.a x.v.list.length x.cap]
/-- The acts that came in. -/
structure Acts (w : World) (a : Option Addr) (n : Nat) (acts : List Act23) : Prop where
  len : acts.length = n
  at_ : ∀ (j : Nat) (x : Act23), acts[j]? = some x → ∃ b o, a = some ⟨b, o, none⟩ ∧ w.rangeAt b (o + j * 9) x.cells
  rv : ∀ x ∈ acts, RV w.cell? (cells6 x.v.kind x.v.text x.v.int x.v.real x.v.flag x.a x.v.list.length x.cap) x.v
theorem infoAct23 : (Try.prog.info? 58).map (·.size) = some 9 := by kernel_rfl

set_option maxHeartbeats 6400000 in
set_option maxRecDepth 100000 in
theorem stale23_any {w : World} {a : Option Addr} {n cap : Nat} {acts : List Act23} (hx : Acts w a n acts) (most : Int) :
    Calls Try.prog 7 #[.int .i64 most, .slice a n cap] w fun e w' => e = .returned (.bool true) ∧ Below w.heap.size w w' := by
  have hmm := @run_makeMap Try.prog
  replace hx := Lib.hid hx
  by_cases hn : 80 < n
  · go_enter Try.func7, Try.ntmps7
    go_wp2_with fail
    refine (alive23_any w).mono ?_
    rintro e w1 ⟨rfl, hb1⟩
    go_wp2
    go_ret
    exact ⟨rfl, hb1⟩
  · go_enter Try.func7, Try.ntmps7
    go_wp2_with fail
    refine (alive23_any w).mono ?_
    rintro e w1 ⟨rfl, hb1⟩
    go_wp2_with fail
    refine (near_new most w1).mono ?_
    rintro e w2 ⟨nb, fp, rfl, hN, hb2, hfp⟩
    have hs1 := hb1.size
    have hs2 := hb2.size
    have hNH : NH w.heap.size w w2 nb fp ⟨[], [], 0, max most 0⟩ := ⟨hN, fun b hb => by have := hfp b hb; omega, hb1.trans (hb2.mono hs1), by omega⟩
    clear hN hb1 hb2
    go_wp2_with fail
    obtain ⟨W3, hW3⟩ : ∃ W3, W3 = ((w2.alloc (.map #[] 0)).alloc (.map #[] 0)).alloc (.map #[] 0) := ⟨_, rfl⟩
    have hS : ∃ (i : Nat) (cl : Int), NH w.heap.size w W3 nb fp ⟨[], [], 0, max most 0⟩ ∧ M3 w.heap.size W3 fp w2.heap.size (w2.heap.size + 1) (w2.heap.size + 1 + 1) (fun _ => none) (fun _ => none) (fun _ => none) ∧ SI ⟨[], [], 0, max most 0⟩ (fun _ => none) (fun _ => none) (fun _ => none) cl i most ∧ i = 0 ∧ cl = 0 := by
      obtain ⟨A, hA⟩ : ∃ A, A = w2.alloc (.map #[] 0) := ⟨_, rfl⟩
      obtain ⟨B, hB⟩ : ∃ B, B = A.alloc (.map #[] 0) := ⟨_, rfl⟩
      have sA : A.heap.size = w2.heap.size + 1 := by rw [hA]; simp
      have sB : B.heap.size = w2.heap.size + 1 + 1 := by rw [hB]; simp [sA]
      have hW : W3 = B.alloc (.map #[] 0) := by rw [hW3, hB, hA]
      have bA : Below w2.heap.size w2 A := by rw [hA]; exact (Below.refl _ _).alloc (Nat.le_refl _) _
      have bB : Below A.heap.size A B := by rw [hB]; exact (Below.refl _ _).alloc (Nat.le_refl _) _
      have bW : Below B.heap.size B W3 := by rw [hW]; exact (Below.refl _ _).alloc (Nat.le_refl _) _
      have b3 : Below w2.heap.size w2 W3 := bA.trans ((bB.mono (by omega)).trans (bW.mono (by omega)))
      have hl := hNH.near.lt
      have m1 : W3.heap[w2.heap.size]? = some (.map #[] 0) := by
        rw [bW.block _ (by omega), bB.block _ (by omega), hA]; exact (MapKept.heap_alloc w2 _).1
      have m2 : W3.heap[w2.heap.size + 1]? = some (.map #[] 0) := by
        rw [bW.block _ (by omega), hB, ← sA]; exact (MapKept.heap_alloc A _).1
      have m3 : W3.heap[w2.heap.size + 1 + 1]? = some (.map #[] 0) := by
        rw [hW, ← sB]; exact (MapKept.heap_alloc B _).1
      have out : ∀ b, w2.heap.size ≤ b → b ∉ fp := fun b hb hm => by have := hl b hm; omega
      exact ⟨0, 0, hNH.below b3, ⟨FMap.new _ m1, FMap.new _ m2, FMap.new _ m3, by omega, by omega, by omega, out _ (by omega), out _ (by omega), out _ (by omega), by omega, by omega, by omega⟩,
        ⟨by simp, by simp, by omega, by show ((0 : Nat) : Int) ≤ max most 0; omega, rfl, by show (0 : Int) ≤ 0 ∧ (0 : Int) ≤ _; omega, by simp⟩, rfl, rfl⟩
    replace hS := Lib.hid hS
    rw [← hW3]
    replace hW3 := Lib.hid hW3
    generalize w2.heap.size = mA at *
    generalize hmB : mA + 1 = mB at *
    generalize hmK : mB + 1 = mK at *
    clear hmB hmK hNH hfp
    go_loopw [9, 28] (fun c9 i wr => ∃ (k : Nat) (cl : Int) (fp : List Nat) (s : NS) (fA : ByteArray → Option Int) (fB : Int → Option Int) (fK : Int → Option ByteArray), k ≤ n ∧ i = .int .i64 k ∧ c9 = .int .i64 cl ∧
      NH w.heap.size w wr nb fp s ∧ M3 w.heap.size wr fp mA mB mK fA fB fK ∧ SI s fA fB fK cl k most) (fun _ i _ => n - (intOf i).toNat)
    case atStart =>
      obtain ⟨_, _, h1, h2, h3, rfl, rfl⟩ := hS.out
      exact ⟨0, 0, fp, _, _, _, _, Nat.zero_le _, rfl, rfl, h1, h2, h3⟩
    case round =>
      obtain ⟨k, cl, fp, s, fA, fB, fK, hk, rfl, rfl, hNH, hM, hSI⟩ := hrel
      clear hS hW3
      by_cases hlt : k < n
      · have hkx : k < acts.length := by have := hx.out.len; omega
        obtain ⟨x, hxe⟩ : ∃ x, x = acts[k] := ⟨_, rfl⟩
        obtain ⟨b1, o1, rfl, hc1⟩ := hx.out.at_ k x (by rw [hxe]; simp [hkx])
        have hb1w : b1 < w.heap.size := World.block_lt_of_cell? w _ (hc1 0 _ rfl)
        have hcr : wr.rangeAt b1 (o1 + k * 9) x.cells := fun j u hj => by rw [hNH.bel.cell (by exact hb1w)]; exact hc1 j u hj
        obtain ⟨kind, N, key, v, va, vcap⟩ := x
        unfold Act23.cells at hcr
        simp only at hcr
        have hall : ([.int .i64 kind, .int .i64 N, .string key, .int .i64 v.kind, .string v.text, .int .i64 v.int, .float .f64 v.real, .bool v.flag, .slice va v.list.length vcap] : List Value).all (fun u => u.oneCell') = true := by simp [Value.oneCell']
        replace hNH := Lib.hid hNH
        replace hM := Lib.hid hM
        replace hSI := Lib.hid hSI
        replace hcr := Lib.hid hcr
        clear hc1 hxe
        go_upto_block 2 with (first
          | (refine wpList_load_mid rfl 58 _ rfl b1 (o1 + k * 9) rfl _ _ hcr.out Try.underlying58 rfl infoAct23 ?_))
        obtain ⟨WA, hWA⟩ : ∃ WA, WA = wr.alloc (.cells #[.int .i64 kind, .int .i64 N, .string key, .int .i64 v.kind, .string v.text, .int .i64 v.int, .float .f64 v.real, .bool v.flag, .slice va v.list.length vcap] 58) := ⟨_, rfl⟩
        have hbA : Below wr.heap.size wr WA := by rw [hWA]; exact (Below.refl _ _).alloc (Nat.le_refl _) _
        have hbx : Box WA wr.heap.size fp [.int .i64 kind, .int .i64 N, .string key, .int .i64 v.kind, .string v.text, .int .i64 v.int, .float .f64 v.real, .bool v.flag, .slice va v.list.length vcap] := by
          rw [hWA]; exact Box.new hNH.out.near.lt _ _
        have hNA := hNH.out.below hbA
        have hMA := hM.out.below hbA
        rw [← hWA]
        have hlast := hSI.out.last
        have hk80 : k ≤ 80 := by omega
        replace hlast := Lib.hid hlast
        clear hNH hM hWA hbA hcr
        go_cut [9] (fun c9 wx => ∃ (cl : Int) (fp : List Nat) (s : NS) (fA : ByteArray → Option Int) (fB : Int → Option Int) (fK : Int → Option ByteArray), c9 = .int .i64 cl ∧ NH w.heap.size w wx nb fp s ∧ M3 w.heap.size wx fp mA mB mK fA fB fK ∧ SI s fA fB fK cl (k + 1) most)
        case first =>
          have gN := hbx.get 1 rfl
          have gK := hbx.get 2 rfl
          by_cases h1 : kind = 1
          · subst h1
            go_wp2_with fail
            refine (near_begin hNA.near (by have := hlast.out; omega) hlast.out.1 key).mono ?_
            rintro e w3 ⟨rfl, hn3, hw3⟩
            have hN3 := hNA.step hn3 hw3
            have hM3 := hMA.went hw3
            have hb3 := hbx.went hw3
            obtain ⟨o4, hr4, hM4⟩ := hM3.putB (s.last + 1) ((k : Int) + 1)
            have hN4 := hN3.setm o4 hM3.ownB hM3.outB (fun a u h => hM3.fb.ncell h)
            have hb4 := hb3.setm o4 (fun a u h => hM3.fb.ncell h)
            obtain ⟨o5, hr5, hM5⟩ := hM4.putK (s.last + 1) key
            have hN5 := hN4.setm o5 hM4.ownK hM4.outK (fun a u h => hM4.fk.ncell h)
            have g4 := hb4.get 2 rfl
            replace hM5 := Lib.hid hM5
            replace hN5 := Lib.hid hN5
            clear hn3 hw3 hN3 hM3 hb3 hM4 hN4 hb4 gN gK hNA hMA hbx
            go_wp2
            go_meet
            exact ⟨cl, fp, _, _, _, _, rfl, hN5.out, hM5.out, hSI.out.begin key⟩
          · have t1 : (kind == 1) = false := by simp [h1]
            by_cases h2 : kind = 2
            · subst h2
              have lB := hMA.lookB N
              have lK := hMA.lookK N
              have lA := hMA.lookA ((fK N).getD ⟨#[]⟩)
              have hold := fun h => hSI.out.old (t := N) h
              generalize hqb : (fB N).getD 0 = qb at *
              generalize hqk : (fK N).getD ⟨#[]⟩ = qk at *
              generalize hqa : (fA qk).getD 0 = qa at *
              have rv3 : ∀ c, RV c (cells6 (V.mk 3 ⟨#[]⟩ k 0 false []).kind (V.mk 3 ⟨#[]⟩ k 0 false []).text (V.mk 3 ⟨#[]⟩ k 0 false []).int (V.mk 3 ⟨#[]⟩ k 0 false []).real (V.mk 3 ⟨#[]⟩ k 0 false []).flag none (V.mk 3 ⟨#[]⟩ k 0 false []).list.length 0) (V.mk 3 ⟨#[]⟩ k 0 false []) := fun c => RV.leaf _ _ _ _ _ _ _ _
              replace hold := Lib.hid hold
              clear hqb hqk hqa
              by_cases hac : qa < cl
              all_goals
                go_wp2_with fail
                refine (near_fill hNA.near N (v := .mk 3 ⟨#[]⟩ k 0 false []) (a := none) (cap := 0) (rv3 _) (by simp [V.count, V.countL])).mono ?_
                rintro e w3 ⟨fp3, rfl, hn3, hw3⟩
                have hN3 := hNA.step hn3 hw3
                have hM3 := hMA.went hw3
                have hb3 := hbx.went hw3
                have g3 := hb3.get 1 rfl
                obtain ⟨o4, hr4, hM4⟩ := hM3.delB N
                have hN4 := hN3.setm o4 hM3.ownB hM3.outB (fun a u h => hM3.fb.ncell h)
                replace hM4 := Lib.hid hM4
                replace hN4 := Lib.hid hN4
                clear hn3 hw3 hN3 hM3 hb3 gN gK hNA hMA hbx lA lB lK
                cases hfs : s.fills N
                · go_wp2
                  go_meet
                  exact ⟨cl, fp3, _, _, _, _, rfl, hN4.out, hM4.out, hSI.out.fill N _⟩
                · have ho := hold.out hfs
                  have ho1 : ¬ qb ≤ qa := by omega
                  have ho2 : ¬ qb ≤ cl := by omega
                  replace ho := Lib.hid ho
                  go_wp2
                  go_meet
                  exact ⟨cl, fp3, _, _, _, _, rfl, hN4.out, hM4.out, hSI.out.fill N _⟩
            · have t2 : (kind == 2) = false := by simp [h2]
              by_cases h3 : kind = 3
              · subst h3
                go_wp2_with fail
                refine (near_drop hNA.near key).mono ?_
                rintro e w3 ⟨fp3, rfl, hn3, hw3⟩
                have hN3 := hNA.step hn3 hw3
                have hM3 := hMA.went hw3
                have hb3 := hbx.went hw3
                have g3 := hb3.get 2 rfl
                obtain ⟨o4, hr4, hM4⟩ := hM3.putA key ((k : Int) + 1)
                have hN4 := hN3.setm o4 hM3.ownA hM3.outA (fun a u h => hM3.fa.ncell h)
                have hb4 := hb3.setm o4 (fun a u h => hM3.fa.ncell h)
                have g4 := hb4.get 2 rfl
                replace hM4 := Lib.hid hM4
                replace hN4 := Lib.hid hN4
                clear hn3 hw3 hN3 hM3 hb3 gN gK hNA hMA hbx hb4
                go_wp2_with fail
                refine (near_peek hN4.out.near key).mono ?_
                rintro e w5 ⟨cs, rfl, hr5, hb5⟩
                rw [drop_gone] at hr5 ⊢
                obtain ⟨a5, cap5, css5, rfl, _⟩ := hr5.out
                rw [cells6_array]
                have hN5 := hN4.out.below hb5
                have hM5 := hM4.out.below hb5
                have hN6 := hN5.below ((Below.refl w5.heap.size w5).alloc (Nat.le_refl _) (.cells #[.int .i64 ((none : Option V).getD V.zero).kind, .string ((none : Option V).getD V.zero).text, .int .i64 ((none : Option V).getD V.zero).int, .float .f64 ((none : Option V).getD V.zero).real, .bool ((none : Option V).getD V.zero).flag, .slice a5 ((none : Option V).getD V.zero).list.length cap5] 44))
                have hM6 := hM5.below ((Below.refl w5.heap.size w5).alloc (Nat.le_refl _) (.cells #[.int .i64 ((none : Option V).getD V.zero).kind, .string ((none : Option V).getD V.zero).text, .int .i64 ((none : Option V).getD V.zero).int, .float .f64 ((none : Option V).getD V.zero).real, .bool ((none : Option V).getD V.zero).flag, .slice a5 ((none : Option V).getD V.zero).list.length cap5] 44))
                replace hM6 := Lib.hid hM6
                replace hN6 := Lib.hid hN6
                clear hr5 hb5 hN5 hM5
                go_wp2
                go_meet
                exact ⟨cl, fp3, _, _, _, _, rfl, hN6.out, hM6.out, hSI.out.drop key⟩
              · have t3 : (kind == 3) = false := by simp [h3]
                by_cases h4 : kind = 4
                · subst h4
                  go_wp2_with fail
                  refine (near_clear hNA.near).mono ?_
                  rintro e w3 ⟨fp3, rfl, hn3, hw3⟩
                  have hN3 := hNA.step hn3 hw3
                  have hM3 := hMA.went hw3
                  replace hM3 := Lib.hid hM3
                  replace hN3 := Lib.hid hN3
                  clear hn3 hw3 gN gK hNA hMA hbx
                  go_wp2_with fail
                  refine (near_len hN3.out.near).mono ?_
                  rintro e w4 ⟨rfl, rfl⟩
                  go_wp2
                  go_meet
                  exact ⟨(k : Int) + 1, fp3, _, _, _, _, rfl, hN3.out, hM3.out, hSI.out.clear⟩
                · have t4 : (kind == 4) = false := by simp [h4]
                  replace hNA := Lib.hid hNA
                  replace hMA := Lib.hid hMA
                  clear gN gK hbx
                  go_wp2
                  go_meet
                  exact ⟨cl, fp, _, _, _, _, rfl, hNA.out, hMA.out, hSI.out.next⟩
        case rest =>
          obtain ⟨cl2, fp2, s2, fA2, fB2, fK2, rfl, hN2, hM2, hS2⟩ := hcut
          have hle := hS2.len
          rw [hS2.most] at hle
          replace hM2 := Lib.hid hM2
          replace hS2 := Lib.hid hS2
          clear hNA hMA hbx
          by_cases hneg : most < 0
          all_goals
            go_wp2_with fail
            refine (near_len hN2.near).mono ?_
            rintro e w4 ⟨rfl, rfl⟩
            go_wp2
            go_roundw
            case rel => exact ⟨k + 1, cl2, fp2, s2, fA2, fB2, fK2, by omega, by go_num, rfl, hN2, hM2.out, hS2.out⟩
            case measure => simp [intOf]; omega
      · clear hx
        go_wp2_with fail
        go_ret
        exact ⟨rfl, hNH.bel⟩
end Go.Proofs.Ytlddjcfbapdjnaa
