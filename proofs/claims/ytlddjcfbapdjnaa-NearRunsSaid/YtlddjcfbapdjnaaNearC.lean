/- The layer near: Clear, Drop. -/
import Derived.Test.YtlddjcfbapdjnaaNearB
import Derived.Maps.Range
import Derived.Maps.RangeWalk
import Derived.Deep.LoopGhost
import Derived.Shelf.Abstract
namespace Go.Proofs.Ytlddjcfbapdjnaa
open Go.RowKit

theorem eraseIdx_filter {α : Type} (f : α → Nat) : ∀ {l : List α} {j : Nat} {e : α}, (l.map f).Nodup → l[j]? = some e → l.eraseIdx j = l.filter (fun x => f x ≠ f e)
  | [], j, e, _, h => by simp at h
  | x :: l, 0, e, hn, h => by
    simp at h; subst h
    rw [List.map_cons, List.nodup_cons] at hn
    rw [List.eraseIdx_cons_zero, List.filter_cons, if_neg (by simp), List.filter_eq_self.2]
    intro y hy
    have : f y ≠ f x := fun e => hn.1 (by rw [← e]; exact List.mem_map.2 ⟨y, hy, rfl⟩)
    simpa using this
  | x :: l, j + 1, e, hn, h => by
    rw [List.map_cons, List.nodup_cons] at hn
    simp at h
    have hx : f x ≠ f e := fun he => hn.1 (by rw [he]; exact List.mem_map.2 ⟨e, List.mem_of_getElem? h, rfl⟩)
    rw [List.eraseIdx_cons_succ, List.filter_cons, if_pos (by simpa using hx), eraseIdx_filter f hn.2 h]

/-- 'delete(m, k)', k the key of an entry that is there: that entry goes. -/
theorem del_entry {κ : Type} [DecidableEq κ] {K : KeyEmb κ} {P : Program} {w : World} {m : Nat} {l : List (κ × Value)} {es : Array MapEntry} {clock : Nat} (hm : w.heap[m]? = some (.map es clock)) (hes : es.toList.map (fun e => (e.key, e.val)) = l.map (fun p => (K.emb p.1, p.2)))
    (hn : (l.map (·.1)).Nodup) (hb : (es.toList.map (·.born)).Nodup) {t kt e : TypeId} (ht : P.underlying t = some (.map kt e)) (hk : P.underlying kt = some K.kind) {x : MapEntry} (hx : x ∈ es.toList) {k : κ} (hxk : x.key = K.emb k) (ts : Array TypeId) (hts : ts[0]? = some t) :
    ∃ es2, (∀ T, (Builtin.delete_ ts T #[.map (some m), K.emb k]).run P w = .ok (.tuple #[]) (setB w m (.map es2 clock))) ∧ es2.toList = es.toList.filter (fun y => y.born ≠ x.born) := by
  have hinj : ∀ a b, K.emb a = K.emb b → a = b := fun a b h => by
    have h1 := K.same a b
    rw [h, K.same b b] at h1
    simpa using h1
  obtain ⟨r, hr, hs⟩ := findNow_ok K k es.toList l 0 hes
  have hc := fun b => K.plain 9999 kt P w b k hk
  simp only [show 9999 + 1 = 10000 from rfl] at hc
  have hu := run_underlying ht w
  have hv := run_underlying hk w
  have hg := MapKept.run_getObj_map (P := P) hm
  have hset := fun o => MapKept.run_setObj_map (P := P) o hm
  obtain ⟨i, hi, hxi⟩ := List.getElem_of_mem hx
  have hil : i < l.length := by have := congrArg List.length hes; simp at this; simp at hi; omega
  have hli : K.emb l[i].1 = K.emb k := by
    have h1 : (es.toList.map (fun e => (e.key, e.val)))[i]? = (l.map (fun p => (K.emb p.1, p.2)))[i]? := by rw [hes]
    rw [List.getElem?_map, List.getElem?_map, List.getElem?_eq_getElem hi, List.getElem?_eq_getElem hil, hxi] at h1
    simp at h1
    rw [← h1.1, hxk]
  have hlik := hinj _ _ hli
  cases r with
  | none =>
    exact absurd (List.mem_map.2 ⟨l[i], List.getElem_mem hil, hlik⟩) (alook_none.1 (show alook l k = none from hs))
  | some jv =>
    obtain ⟨j, u⟩ := jv
    have hj : l[j]? = some (k, u) := by simpa using hs.2.1
    obtain ⟨hjl, hje⟩ := List.getElem?_eq_some_iff.1 hj
    have hij : i = j := by
      have h1 : (l.map (·.1))[i]'(by simpa using hil) = (l.map (·.1))[j]'(by simpa using hjl) := by simp [hlik, hje]
      exact (List.getElem_inj hn).1 h1
    subst hij
    refine ⟨es.eraseIdxIfInBounds i, fun T => by simp [Builtin.delete_, hts, hu, hv, hg, hc, Instr.findKey, hr, hset, setB], ?_⟩
    rw [Array.toList_eraseIdxIfInBounds]
    exact eraseIdx_filter (fun y : MapEntry => y.born) hb (by rw [List.getElem?_eq_getElem hi, hxi])

theorem near_clear {w : World} {nb : Nat} {fp : List Nat} {s : NS} (h : Near w nb fp s) :
    Calls Try.prog 33 #[P0 nb] w fun e w' => ∃ fp', e = .returned (.tuple #[]) ∧ Near w' nb fp' s.clear ∧ Went w fp w' fp' := by
  obtain ⟨rb, m, vb, tb, ns, h⟩ := h
  have c1 := h.c1
  obtain ⟨l1, hl1, _⟩ := h.vals
  obtain ⟨o1, hr1, ho1⟩ := clear_map (P := Try.prog) hl1 Try.underlying82 0
  obtain ⟨h1, hf1⟩ := h.setvals (es' := []) (fun W fp' hW _ => ⟨[], ho1 W hW, by simp, by simp⟩)
  have c2 := h1.c2
  obtain ⟨l2, hl2, _⟩ := h1.tix
  obtain ⟨o2, hr2, ho2⟩ := clear_map (P := Try.prog) hl2 Try.underlying56 0
  obtain ⟨h2, hf2⟩ := h1.settix (ts' := []) (fun W hW => ⟨[], ho2 W hW, by simp⟩) (by simp)
  have c0 := h2.c0
  have hr1 : ∀ T, (Builtin.clear_ #[82] T #[.map (some vb)]).run Try.prog w = .ok (.tuple #[]) (setB w vb o1) := fun T => hr1
  have hr2 : ∀ T, (Builtin.clear_ #[56] T #[.map (some tb)]).run Try.prog (setB w vb o1) = .ok (.tuple #[]) (setB (setB w vb o1) tb o2) := fun T => hr2
  have hw : Went w fp (setB (setB w vb o1) tb o2) fp := Went.trans ⟨hf1, fun _ h => Or.inl h⟩ ⟨hf2, fun _ h => Or.inl h⟩
  have hrc := h2.rc
  replace h2 := Lib.hid h2
  replace hw := Lib.hid hw
  clear h h1 hf1 hf2 ho1 ho2 hl1 hl2
  go_enter Try.func33, Try.ntmps33
  go_wp2_with fail
  refine (clear_rec hrc).mono ?_
  rintro e w1 ⟨rfl, hrc1, hf⟩
  have hf' : Fr (· ∈ rb :: m :: ns) (setB (setB w vb o1) tb o2) w1 := hf.mono (fun i _ hi => by simp at hi; simp [hi])
  obtain ⟨fp', h3, h4, h5⟩ := h2.out.ring hrc1 hf' (fun b hb => by simp at hb; exact Or.inr (by omega))
  clear hr1 hr2 c0 c1 c2
  go_wp2
  go_end0
  exact ⟨fp', rfl, ⟨_, _, _, _, _, h3⟩, hw.out.trans ⟨h4, h5⟩⟩

/-- Is it this text? -/
def isText (k : ByteArray) : Value → Bool
  | .string x => x.toList == k.toList
  | _ => false
theorem drop1_any {w : World} {kb : Nat} {k : ByteArray} (hk : w.cell? ⟨kb, 0, none⟩ = some (.string k)) (t : Int) (x : ByteArray) :
    Calls Try.prog 52 #[.int .i64 t, .string x, .pointer (some ⟨kb, 0, none⟩)] w fun e w' => e = .returned (.bool (isText k (.string x))) ∧ w' = w := by
  go_enter Try.func52, Try.ntmps52
  go_wp2
  go_ret
  exact ⟨rfl, rfl⟩

/-- A walk over a map whose entries go where their texts are k: what is left, and who has been met. -/
structure Sweep (w wr : World) (tb ib clock : Nat) (k : ByteArray) (es0 : List MapEntry) (es : Array MapEntry) (seen : Array Nat) : Prop where
  map : wr.heap[tb]? = some (.map es clock)
  iter : wr.heap[ib]? = some (.mapIter (some tb) clock seen clock)
  left : es.toList = es0.filter (fun e => !(isText k e.val && seen.contains e.born))
  fr : Fr (· ∈ [tb]) w wr
theorem Sweep.meet {w wr w1 : World} {tb ib clock : Nat} {k : ByteArray} {es0 : List MapEntry} {es : Array MapEntry} {seen : Array Nat} (h : Sweep w wr tb ib clock k es0 es seen) (hib : w.heap.size ≤ ib) (hne : ib ≠ tb) (hw1 : w1 = wr ∨ w1 = wr.drew) (b : Nat) :
    (ChangeMaps.setBlock w1 ib (.mapIter (some tb) clock (seen.push b) clock)).heap[tb]? = some (.map es clock) ∧ (ChangeMaps.setBlock w1 ib (.mapIter (some tb) clock (seen.push b) clock)).heap[ib]? = some (.mapIter (some tb) clock (seen.push b) clock) ∧
      Fr (· ∈ [tb]) w (ChangeMaps.setBlock w1 ib (.mapIter (some tb) clock (seen.push b) clock)) := by
  have hi1 : w1.heap[ib]? = some (.mapIter (some tb) clock seen clock) := by rcases hw1 with rfl | rfl <;> exact h.iter
  have ht1 : w1.heap[tb]? = some (.map es clock) := by rcases hw1 with rfl | rfl <;> exact h.map
  have hf1 : Fr (· ∈ [tb]) w w1 := by rcases hw1 with rfl | rfl; exact h.fr; exact h.fr.drew
  have hs := MapKept.heap_set (o' := .mapIter (some tb) clock (seen.push b) clock) hi1
  exact ⟨(hs.2 tb (Ne.symm hne)).trans ht1, hs.1, ⟨hf1.os, hf1.tape, hf1.output, by simpa [ChangeMaps.setBlock] using hf1.size, fun i hi hm => (hs.2 i (by omega)).trans (hf1.block i hi hm)⟩⟩

theorem Sweep.step {w wr W : World} {tb ib clock : Nat} {k : ByteArray} {es0 : List MapEntry} {es es2 : Array MapEntry} {seen : Array Nat} (h : Sweep w wr tb ib clock k es0 es seen) (hbn : (es0.map (·.born)).Nodup) {e : MapEntry} (he : e ∈ es0)
    (hes : es2.toList = if isText k e.val then es.toList.filter (fun y => y.born ≠ e.born) else es.toList)
    (hm : W.heap[tb]? = some (.map es2 clock)) (hi : W.heap[ib]? = some (.mapIter (some tb) clock (seen.push e.born) clock)) (hf : Fr (· ∈ [tb]) w W) : Sweep w W tb ib clock k es0 es2 (seen.push e.born) := by
  refine ⟨hm, hi, ?_, hf⟩
  rw [hes, h.left]
  split
  · rename_i hq
    rw [List.filter_filter]
    refine List.filter_congr fun x hx => ?_
    rw [contains_push]
    by_cases hxe : x.born = e.born
    · have := born_inj hbn hx he hxe
      subst this
      simp [hq]
    · have hxb : (x.born == e.born) = false := by simpa using hxe
      simp [hxe, hxb]
  · rename_i hq
    refine List.filter_congr fun x hx => ?_
    rw [contains_push]
    by_cases hxe : x.born = e.born
    · have := born_inj hbn hx he hxe
      subst this
      simp [hq]
    · have hxb : (x.born == e.born) = false := by simpa using hxe
      simp [hxe, hxb]
theorem Sweep.over {w wr : World} {tb ib clock : Nat} {k : ByteArray} {es0 : List MapEntry} {es : Array MapEntry} {seen : Array Nat} (h : Sweep w wr tb ib clock k es0 es seen) (hall : ∀ x ∈ es.toList, seen.contains x.born = true) : es.toList = es0.filter (fun e => !isText k e.val) := by
  rw [h.left]
  refine List.filter_congr fun x hx => ?_
  cases hq : isText k x.val
  · simp
  · cases hs : seen.contains x.born
    · have hm : x ∈ es.toList := by rw [h.left]; exact List.mem_filter.2 ⟨hx, by rw [hs]; simp⟩
      rw [hall x hm] at hs; cases hs
    · rfl
theorem Sweep.tix {w wr : World} {tb ib clock : Nat} {k : ByteArray} {es0 : List MapEntry} {es : Array MapEntry} {seen : Array Nat} (h : Sweep w wr tb ib clock k es0 es seen) (hall : ∀ x ∈ es.toList, seen.contains x.born = true)
    {l : List (Int × Value)} {ts : List (Int × ByteArray)} (hes : es0.map (fun e => (e.key, e.val)) = l.map (fun p => (intKey.emb p.1, p.2))) (hn : (l.map (·.1)).Nodup) (hb : es0.Pairwise (fun x y => x.born < y.born)) (hlt : ∀ e ∈ es0, e.born < clock)
    (hp : l.Perm (ts.map fun p => (p.1, Value.string p.2))) : Tix wr tb (ts.filter (fun p => p.2 ≠ k)) := by
  have he := h.over hall
  have hsub : es.toList.Sublist es0 := by rw [he]; exact List.filter_sublist
  refine ⟨l.filter (fun p => !isText k p.2), ⟨hn.sublist (List.filter_sublist.map _), es, clock, h.map, ?_, hb.sublist hsub, fun e hm => hlt e (hsub.subset hm)⟩, ?_⟩
  · have e1 : (es0.filter (fun e => !isText k e.val)).map (fun e => (e.key, e.val)) = (es0.map (fun e => (e.key, e.val))).filter (fun q => !isText k q.2) := by rw [List.filter_map]; rfl
    have e2 : (l.map (fun p => (intKey.emb p.1, p.2))).filter (fun q => !isText k q.2) = (l.filter (fun p => !isText k p.2)).map (fun p => (intKey.emb p.1, p.2)) := by rw [List.filter_map]; rfl
    rw [he, e1, hes, e2]
  · have e3 : (ts.map fun p => (p.1, Value.string p.2)).filter (fun p => !isText k p.2) = (ts.filter (fun p => p.2 ≠ k)).map fun p => (p.1, Value.string p.2) := by
      rw [List.filter_map]
      congr 1
      refine List.filter_congr fun p _ => ?_
      simp [isText, str_beq]
    rw [← e3]
    exact hp.filter _

theorem delfunc_any {w : World} {tb kb : Nat} {k : ByteArray} {ts : List (Int × ByteArray)} (h : Tix w tb ts) (hk : w.cell? ⟨kb, 0, none⟩ = some (.string k)) :
    Calls Try.prog 51 #[.map (some tb), .func (.func 52) #[] #[.pointer (some ⟨kb, 0, none⟩)]] w fun e w' => e = .returned (.tuple #[]) ∧ Tix w' tb (ts.filter (fun p => p.2 ≠ k)) ∧ Fr (· ∈ [tb]) w w' := by
  obtain ⟨l, hl, hperm⟩ := h
  have htb := hl.lt
  have hnd := hl.nodup
  have hkn := hl.ncell hk
  have hkb := World.block_lt_of_cell? _ _ hk
  obtain ⟨es0, clock, hm, hes, hb, hlt⟩ := hl.held
  have hbn : (es0.toList.map (·.born)).Nodup := by
    rw [List.nodup_iff_pairwise_ne, List.pairwise_map]
    exact hb.imp (fun h => by omega)
  have hrange := run_range_map (P := Try.prog) w _ _ _ tb es0 clock Try.underlying56 hm
  have hS0 : Sweep w (w.alloc (.mapIter (some tb) clock #[] clock)) tb w.heap.size clock k es0.toList es0 #[] :=
    ⟨(heap_alloc_old w _ htb).trans hm, heap_alloc_new w _, (List.filter_eq_self.2 (fun _ _ => by simp)).symm, (Fr.refl _ w).alloc _⟩
  -- an entry's value is a text
  have hval : ∀ e ∈ es0.toList, ∃ p : Int × ByteArray, e.key = .int .i64 p.1 ∧ e.val = .string p.2 ∧ (p.1, Value.string p.2) ∈ l := by
    intro e he
    have h1 : (e.key, e.val) ∈ es0.toList.map (fun e => (e.key, e.val)) := List.mem_map.2 ⟨e, he, rfl⟩
    rw [hes] at h1
    obtain ⟨q, hq, hqe⟩ := List.mem_map.1 h1
    obtain ⟨p, hp, rfl⟩ := List.mem_map.1 (hperm.mem_iff.1 hq)
    simp only [Prod.mk.injEq] at hqe
    exact ⟨p, hqe.1.symm, hqe.2.symm, hq⟩
  replace hval := Lib.hid hval
  replace hes := Lib.hid hes
  replace hb := Lib.hid hb
  replace hlt := Lib.hid hlt
  replace hbn := Lib.hid hbn
  replace hperm := Lib.hid hperm
  replace hnd := Lib.hid hnd
  have eg : ∀ args w, (callFunc 52 args).run Try.prog w = .ok (.enter 52 args) w := enters_of Try.func52 (by kernel_rfl) rfl
  replace hS0 := Lib.hid hS0
  clear hm hl
  go_enter Try.func51, Try.ntmps51
  go_wp2
  go_loopw [8] (fun _ wr => ∃ es seen, Sweep w wr tb w.heap.size clock k es0.toList es seen) (fun _ wr => wr.rangeLeft tb w.heap.size)
  case atStart => exact ⟨es0, #[], hS0.out⟩
  case round =>
    obtain ⟨es, seen, hS⟩ := hrel
    have hsub : ∀ x ∈ es.toList, x ∈ es0.toList := fun x hx => by rw [hS.left] at hx; exact (List.mem_filter.1 hx).1
    have hmeas : wr.rangeLeft tb w.heap.size = (leftOf es seen).size := by simp only [World.rangeLeft, hS.map, hS.iter]
    have hkw : wr.cell? ⟨kb, 0, none⟩ = some (.string k) := hS.fr.cell hk (fun hm => hkn (by simp at hm; exact hm.symm))
    have hne : w.heap.size ≠ tb := by omega
    rcases run_next_at (P := Try.prog) wr 0 w.heap.size tb clock clock seen es clock hS.iter hS.map (fun x hx => hlt.out x (hsub x hx)) (Nat.le_refl _) with ⟨h0, hnext⟩ | ⟨e, he, w1, hw1, hnext⟩
    · -- nothing is left
      have hall := all_seen es seen h0
      replace hsub := Lib.hid hsub
      replace hmeas := Lib.hid hmeas
      replace hS := Lib.hid hS
      replace hall := Lib.hid hall
      clear hkw
      go_wp2
      go_end0
      exact ⟨rfl, hS.out.tix hall.out hes.out hnd.out hb.out hlt.out hperm.out, hS.out.fr⟩
    · obtain ⟨hem, hes1⟩ := mem_left he
      have hlt' := left_shrinks es seen e he
      obtain ⟨hm1, hi1, hf1⟩ := hS.meet (Nat.le_refl _) hne hw1 e.born
      have hbn1 : (es.toList.map (·.born)).Nodup := by rw [hS.left]; exact hbn.out.sublist (List.filter_sublist.map _)
      have hent := run_entry_at (P := Try.prog) _ w.heap.size tb clock seen es clock e hi1 hm1 hem hbn1
      obtain ⟨W1, hW1⟩ : ∃ W1, W1 = ChangeMaps.setBlock w1 w.heap.size (.mapIter (some tb) clock (seen.push e.born) clock) := ⟨_, rfl⟩
      rw [← hW1] at hm1 hi1 hf1 hent hnext
      have hk1 : W1.cell? ⟨kb, 0, none⟩ = some (.string k) := hf1.cell hk (fun hm => hkn (by simp at hm; exact hm.symm))
      obtain ⟨p, hp1, hp2, hp3⟩ := hval.out e (hsub e hem)
      rw [hp1, hp2] at hent hnext
      obtain ⟨l', hl', hle⟩ := List.sublist_map_iff.1 (hes.out ▸ ((hS.left ▸ List.filter_sublist : es.toList.Sublist es0.toList).map (fun e : MapEntry => (e.key, e.val))))
      obtain ⟨es2, hdel, hes2⟩ := del_entry (K := intKey) (P := Try.prog) hm1 hle (hnd.out.sublist (hl'.map _)) hbn1 Try.underlying56 Try.underlying3 hem (k := p.1) hp1 #[56, 3] rfl
      have hc := drop1_any hk1 p.1 p.2
      replace hsub := Lib.hid hsub
      replace hmeas := Lib.hid hmeas
      replace hS := Lib.hid hS
      replace hm1 := Lib.hid hm1
      replace hi1 := Lib.hid hi1
      replace hf1 := Lib.hid hf1
      replace hes2 := Lib.hid hes2
      replace hW1 := Lib.hid hW1
      have hdel : ∀ T, (Builtin.delete_ #[56, 3] T #[.map (some tb), .int .i64 p.1]).run Try.prog W1 = .ok (.tuple #[]) (setB W1 tb (.map es2 clock)) := hdel
      clear hkw
      cases hq : isText k (.string p.2)
      · rw [hq] at hc
        go_wp2_with (go_at_fn 52; refine hc.mono ?_; rintro e w2 ⟨rfl, rfl⟩)
        go_roundw
        case rel => exact ⟨es, _, hS.out.step hbn.out (hsub.out e hem) (by rw [hp2, hq]; simp) hm1.out hi1.out hf1.out⟩
        case measure => rw [hmeas.out, show w2.rangeLeft tb w.heap.size = (leftOf es (seen.push e.born)).size by simp only [World.rangeLeft, hm1.out, hi1.out]]; exact hlt'
      · rw [hq] at hc
        go_wp2_with (go_at_fn 52; refine hc.mono ?_; rintro e w2 ⟨rfl, rfl⟩)
        have hW3 : (setB w2 tb (.map es2 clock)).heap[tb]? = some (.map es2 clock) := setB_same hm1.out
        have hI3 : (setB w2 tb (.map es2 clock)).heap[w.heap.size]? = some (.mapIter (some tb) clock (seen.push e.born) clock) := (setB_other _ (Ne.symm hne)).trans hi1.out
        go_roundw
        case rel => exact ⟨es2, _, hS.out.step hbn.out (hsub.out e hem) (by rw [hp2, hq, hes2.out]; simp) hW3 hI3 (hf1.out.setB (fun _ => by show tb ∈ [tb]; simp) _)⟩
        case measure =>
          rw [hmeas.out, show (setB w2 tb (.map es2 clock)).rangeLeft tb w.heap.size = (leftOf es2 (seen.push e.born)).size by simp only [World.rangeLeft, hW3, hI3]]
          have e1 : ∀ a : Array MapEntry, (leftOf a (seen.push e.born)).size = (a.toList.filter fun e' => !(seen.push e.born).contains e'.born).length := fun a => by
            unfold leftOf
            rw [← Array.toList_filter, Array.length_toList]
          have h2 : (leftOf es2 (seen.push e.born)).size ≤ (leftOf es (seen.push e.born)).size := by
            rw [e1, e1, hes2.out]
            exact (List.filter_sublist.filter _).length_le
          omega

theorem near_drop {w : World} {nb : Nat} {fp : List Nat} {s : NS} (h : Near w nb fp s) (k : ByteArray) :
    Calls Try.prog 32 #[P0 nb, .string k] w fun e w' => ∃ fp', e = .returned (.bool (decide (k ∈ s.keys))) ∧ Near w' nb fp' (s.drop k) ∧ Went w fp w' fp' := by
  obtain ⟨W1, hW1⟩ : ∃ W1, W1 = w.alloc (.cells #[.string k] 9) := ⟨_, rfl⟩
  have hb1 : Below w.heap.size w W1 := by rw [hW1]; exact (Below.refl _ _).alloc (Nat.le_refl _) _
  have hlt := h.lt
  replace h := h.below hb1
  obtain ⟨rb, m, vb, tb, ns, h⟩ := h
  have hk : W1.cell? ⟨w.heap.size, 0, none⟩ = some (.string k) := by rw [hW1]; simp
  have c2 := h.c2
  have htix := h.tix
  have htf : tb ∈ fp := by rw [h.efp]; simp
  have htb := hlt tb htf
  rw [hW1] at c2
  replace h := Lib.hid h
  replace hW1 := Lib.hid hW1
  replace hb1 := Lib.hid hb1
  replace htf := Lib.hid htf
  replace hlt := Lib.hid hlt
  go_enter Try.func32, Try.ntmps32
  go_wp2_with fail
  rw [← hW1.out]
  refine (delfunc_any htix hk).mono ?_
  rintro e w2 ⟨rfl, ht2, hf2⟩
  have hmm : ∀ b, b ≠ tb → ¬ b ∈ [tb] := fun b hb hm => hb (by simpa using hm)
  have hf2' : Fr (· ∈ fp) W1 w2 := hf2.mono (fun b _ hb => by simp at hb; rw [hb]; exact htf.out)
  have hk2 : w2.cell? ⟨w.heap.size, 0, none⟩ = some (.string k) := hf2.cell hk (hmm _ (by show w.heap.size ≠ tb; omega))
  have hh := h.out
  have hn := hmm nb hh.nt
  have h2 : NStr w2 nb rb m vb tb ns fp s.keys { s with ts := s.ts.filter (fun p => p.2 ≠ k) } :=
    ⟨hh.efp, hf2.cell hh.c0 hn, hf2.cell hh.c1 hn, hf2.cell hh.c2 hn, hf2.cell hh.c3 hn, hf2.cell hh.c4 hn, hh.blk.fr hf2 hn, hh.rc.fr hf2 (fun b hb => hmm b (fun e => hh.apart tb (by simp) (e ▸ hb))),
      hh.vals.of_block (hf2.block _ hh.vals.lt (hmm vb hh.vt)) (off_fr hf2' (fun b hb => Or.inl hb)), ht2, hh.apart, hh.nv, hh.nt, hh.vt, fun p hp => hh.tlt p (List.mem_filter.1 hp).1, hh.most0⟩
  replace h2 := Lib.hid h2
  clear hk c2 htix hh
  go_wp2_with fail
  refine (near_forget (s := { s with ts := s.ts.filter (fun p => p.2 ≠ k) }) h2.out k).mono ?_
  rintro e w3 ⟨rfl, fp', h3, hw3⟩
  clear hk2
  go_wp2
  go_ret
  exact ⟨fp', rfl, h3, ((Went.of_below hb1.out).trans ⟨hf2', fun _ h => Or.inl h⟩).trans hw3⟩
end Go.Proofs.Ytlddjcfbapdjnaa
