/- The document's Get, Put, Drop, Append; item.Append; fits. -/
import Derived.Test.YteoalcmhdoopnaaDoorItDrop
namespace Go.Proofs.YteoalcmhdoopnaaDoor
open Go.RowKit

theorem getF_first {fs : List Fld} {name : ByteArray} {j : Nat} {f : Fld} (hf : fs[j]? = some f) (he : f.1 = name) (h : ∀ g ∈ fs.take j, g.1 ≠ name) : getF fs name = some f.2 ∧ hasF fs name = true := by
  obtain ⟨hj, rfl⟩ := List.getElem?_eq_some_iff.1 hf
  have h1 : hasF fs name = true := hasF_iff.2 ⟨j, hj, he⟩
  refine ⟨?_, h1⟩
  have e : fs = fs.take j ++ fs[j] :: fs.drop (j + 1) := by rw [← List.drop_eq_getElem_cons hj, List.take_append_drop]
  unfold getF
  have h2 : (fs.take j).find? (fun f => decide (f.1 = name)) = none := by
    rw [List.find?_eq_none]; intro g hg; simpa using h g hg
  conv => lhs; rw [e]
  rw [List.find?_append, h2, List.find?_cons]
  simp [he]
theorem hasF_no {fs : List Fld} {name : ByteArray} {n : Nat} (hl : fs.length = n) (h : ∀ g ∈ fs.take n, g.1 ≠ name) : hasF fs name = false := by
  cases hh : hasF fs name with
  | false => rfl
  | true =>
    obtain ⟨k, hk, he⟩ := hasF_iff.1 hh
    exact absurd he (h _ (by rw [List.take_of_length_le (by omega)]; exact List.getElem_mem hk))
set_option maxRecDepth 100000 in
set_option maxHeartbeats 3200000 in
theorem rget_any (k : Int) (t : ByteArray) (a : Option Addr) (n cap : Nat) (fs : List Fld) (name : ByteArray) (w : World) (hk : k ≠ 1) (hr : RF w a n cap fs) (hn : n ≤ 100000) :
    Calls Tryd.prog 22 #[.agg #[.int .i64 k, .string t, .slice a n cap], .string name] w fun e w' => e = .returned (.tuple #[.string ((getF fs name).getD ⟨#[]⟩), .bool (hasF fs name), .int .i64 0]) ∧ Below w.heap.size w w' := by
  have hl := hr.len
  have hal := (Below.refl w.heap.size w).alloc (Nat.le_refl _) (.cells #[.int .i64 k, .string t, .slice a n cap] 24)
  have hk1 : (k == 1) = false := by simpa using hk
  obtain ⟨T, hT⟩ : ∃ T, T = (getF fs name).getD ⟨#[]⟩ := ⟨_, rfl⟩
  obtain ⟨H, hH⟩ : ∃ H, H = hasF fs name := ⟨_, rfl⟩
  rw [← hT, ← hH]
  replace hT := Lib.hid hT
  replace hH := Lib.hid hH
  replace hal := Lib.hid hal
  replace hl := Lib.hid hl
  replace hr := Lib.hid hr
  clear hk
  go_enter Tryd.func22, Tryd.ntmps22
  go_wp2_with fail
  go_loopw [15] (fun i wr => ∃ j : Nat, j ≤ n ∧ i = .int .i64 j ∧ (∀ g ∈ fs.take j, g.1 ≠ name) ∧ Below w.heap.size w wr) (fun i _ => n - (intOf i).toNat)
  case atStart => exact ⟨0, Nat.zero_le _, rfl, by simp, hal.out⟩
  case round =>
    obtain ⟨j, hj, rfl, htk, hbel⟩ := hrel
    replace htk := Lib.hid htk
    by_cases hlt : j < n
    · obtain ⟨b, o, f, hf, rfl, d0, d1⟩ := hr.out.at hlt
      replace d0 := bcell hbel d0
      replace d1 := bcell hbel d1
      have hal2 := hbel.alloc hbel.size (.cells #[.string f.1, .string f.2] 30)
      replace hal2 := Lib.hid hal2
      replace hf := Lib.hid hf
      by_cases he : f.1 = name
      · have hx := getF_first hf.out he htk.out
        have hTf : T = f.2 := by rw [hT.out, hx.1]; rfl
        have hHt : H = true := by rw [hH.out, hx.2]
        subst hTf
        subst hHt
        have hb := str_eq he
        replace he := Lib.hid he
        clear hx
        go_wp2
        refine bodyPost_ret (v := .tuple #[.string f.2, .bool true, .int .i64 0]) (by simp [results, Tryd.results22, go_sem]) rfl ⟨rfl, hal2.out⟩
      · have hb := str_ne he
        replace he := Lib.hid he
        go_wp2
        go_roundw
        case rel => exact ⟨j + 1, by omega, by go_num, take_all htk.out hf.out he.out, hal2.out⟩
        case measure => simp [intOf]; omega
    · have hjn : j = n := by omega
      subst hjn
      have hno := hasF_no hl.out htk.out
      obtain rfl : H = false := by rw [hH.out]; exact hno
      obtain rfl : T = ⟨#[]⟩ := by rw [hT.out, getF_none hno]; rfl
      clear hno
      go_wp2
      refine bodyPost_ret (v := .tuple #[.string ⟨#[]⟩, .bool false, .int .i64 0]) (by simp [results, Tryd.results22, go_sem]) rfl ⟨rfl, hbel⟩
set_option maxRecDepth 100000 in
theorem rget_text (t : ByteArray) (a : Option Addr) (n cap : Nat) (name : ByteArray) (w : World) :
    Calls Tryd.prog 22 #[.agg #[.int .i64 1, .string t, .slice a n cap], .string name] w fun e w' => e = .returned (.tuple #[.string ⟨#[]⟩, .bool false, .int .i64 91]) ∧ Below w.heap.size w w' := by
  have hal := (Below.refl w.heap.size w).alloc (Nat.le_refl _) (.cells #[.int .i64 1, .string t, .slice a n cap] 24)
  replace hal := Lib.hid hal
  go_enter Tryd.func22, Tryd.ntmps22
  go_wp2
  refine bodyPost_ret (v := .tuple #[.string ⟨#[]⟩, .bool false, .int .i64 91]) (by simp [results, Tryd.results22, go_sem]) rfl ⟨rfl, hal.out⟩

/-- What the document's Put has laid so far. -/
def PutR (fs : List Fld) (name s : ByteArray) (j : Nat) (pl : Bool) (out : List Fld) : Prop :=
  (j ≤ lbF fs name ∧ pl = false ∧ out = fs.take j) ∨ (lbF fs name < j ∧ pl = true ∧ out = fs.take (lbF fs name) ++ (name, s) :: (fs.take j).drop (lbF fs name + if hasF fs name then 1 else 0))
theorem putR_nil (fs : List Fld) (name s : ByteArray) : PutR fs name s 0 false [] := Or.inl ⟨Nat.zero_le _, rfl, by simp⟩
theorem putR_end {fs : List Fld} {name s : ByteArray} {out : List Fld} {pl : Bool} {n : Nat} (hs : Srt fs) (hl : fs.length = n) (h : PutR fs name s n pl out) : (if pl then out else out ++ [(name, s)]) = putF fs name s := by
  rcases h with ⟨h1, rfl, rfl⟩ | ⟨h1, rfl, rfl⟩
  · have h2 := lbF_le fs name
    have h3 : lbF fs name = fs.length := by omega
    have h4 := hasF_end hs h3
    unfold putF
    rw [h4, h3, List.take_of_length_le (by omega)]
    simp
  · unfold putF
    rw [List.take_of_length_le (l := fs) (i := n) (by omega)]; rfl
/-- Ahead of the place. -/
theorem putR_lo {fs : List Fld} {name s : ByteArray} {out : List Fld} {pl : Bool} {j : Nat} {f : Fld} (hf : fs[j]? = some f) (h : PutR fs name s j pl out) (hc : cmpB f.1 name < 0) (hs : Srt fs) : pl = false ∧ PutR fs name s (j + 1) false (out ++ [f]) := by
  obtain ⟨hj, rfl⟩ := List.getElem?_eq_some_iff.1 hf
  rcases h with ⟨h1, rfl, rfl⟩ | ⟨h1, rfl, rfl⟩
  · refine ⟨rfl, Or.inl ⟨?_, rfl, by rw [List.take_succ_eq_append_getElem hj]⟩⟩
    rcases Nat.eq_or_lt_of_le h1 with e | e
    · exact absurd hc (lbF_ge hs hj (by omega))
    · exact e
  · exact absurd hc (lbF_ge hs hj (by omega))
/-- At the place, and behind it. -/
theorem putR_hi {fs : List Fld} {name s : ByteArray} {out : List Fld} {pl : Bool} {j : Nat} {f : Fld} (hf : fs[j]? = some f) (h : PutR fs name s j pl out) (hc : ¬ cmpB f.1 name < 0) (hs : Srt fs) :
    (pl = false → (f.1 = name → PutR fs name s (j + 1) true (out ++ [(name, s)])) ∧ (f.1 ≠ name → PutR fs name s (j + 1) true (out ++ [(name, s)] ++ [f]))) ∧ (pl = true → f.1 ≠ name ∧ PutR fs name s (j + 1) true (out ++ [f])) := by
  obtain ⟨hj, rfl⟩ := List.getElem?_eq_some_iff.1 hf
  rcases h with ⟨h1, rfl, rfl⟩ | ⟨h1, rfl, rfl⟩
  · have e : j = lbF fs name := by
      rcases Nat.eq_or_lt_of_le h1 with e | e
      · exact e
      · exact absurd (lbF_lt hj e) hc
    refine ⟨fun _ => ⟨fun he => Or.inr ⟨by omega, rfl, ?_⟩, fun he => Or.inr ⟨by omega, rfl, ?_⟩⟩, fun h => by cases h⟩
    · have hh : hasF fs name = true := hasF_iff.2 ⟨j, hj, he⟩
      rw [hh, ← e, if_pos rfl, List.drop_of_length_le (by rw [List.length_take]; omega)]
    · have hh : hasF fs name = false := by
        cases h : hasF fs name with
        | false => rfl
        | true => obtain ⟨h2, h3⟩ := (hasF_at hs).1 h; exact absurd (by simpa [e] using h3) he
      rw [hh, ← e]
      simp only [Bool.false_eq_true, if_false, Nat.add_zero]
      rw [List.take_succ_eq_append_getElem hj, List.drop_append_of_le_length (by rw [List.length_take]; omega), List.drop_of_length_le (by rw [List.length_take]; omega)]
      simp
  · refine ⟨fun h => (by cases h), fun _ => ⟨fun he => ?_, Or.inr ⟨by omega, rfl, ?_⟩⟩⟩
    · have := at_lbF hs hj he; omega
    · rw [List.take_succ_eq_append_getElem hj, List.drop_append_of_le_length (by rw [List.length_take]; split <;> omega)]
      simp
/-- The box of what comes out, and its row. -/
structure OutB (wr : World) (o : Nat) (k : Int) (v : Value) (out : List Fld) : Prop where
  own : wr.ownsRow (o + 1) 30 2 v out.length (flds out)
  c0 : wr.cell? ⟨o, 0, none⟩ = some (.int .i64 k)
  c1 : wr.cell? ⟨o, 1, none⟩ = some (.string ⟨#[]⟩)
  c2 : wr.cell? ⟨o, 2, none⟩ = some v
  blk : Blk wr o
theorem OutB.below {wr w' : World} {o : Nat} {k : Int} {v : Value} {out : List Fld} (h : OutB wr o k v out) (hb : Below wr.heap.size wr w') : OutB w' o k v out :=
  ⟨owns_fr h.own (Fr.of_below hb) (fun q hq => by have := (owns_block h.own q hq).2; omega), bcell hb h.c0, bcell hb h.c1, bcell hb h.c2, h.blk.of_block (hb.block _ h.blk.lt)⟩
/-- One field more, and its slice laid into the box. -/
theorem OutB.push {wr w1 : World} {o : Nat} {k : Int} {v v1 : Value} {out : List Fld} {f : Fld} (h : OutB wr o k v out) (hown : w1.ownsRow (o + 1) 30 2 v1 (out.length + 1) (flds out ++ (#[.string f.1, .string f.2] : Array Value).toList)) (hf : Fr (fun q => v.ownBlock = some q) wr w1) :
    OutB (w1.setCell ⟨o, 2, none⟩ v1) o k v1 (out ++ [f]) ∧ Fr (fun q => q = o ∨ v.ownBlock = some q) wr (w1.setCell ⟨o, 2, none⟩ v1) := by
  have hne : ¬ v.ownBlock = some o := fun e => by have := (owns_block h.own o e).1; omega
  have hfr : Fr (fun q => q = o) w1 (w1.setCell ⟨o, 2, none⟩ v1) := (Fr.refl (fun q => q = o) w1).setCell (p := ⟨o, 2, none⟩) (fun _ => rfl) _
  refine ⟨⟨?_, ?_, ?_, ?_, (h.blk.fr hf hne).setCell _ _⟩, ?_⟩
  · have e : flds (out ++ [f]) = flds out ++ (#[.string f.1, .string f.2] : Array Value).toList := by rw [flds_append]; rfl
    rw [e, List.length_append]
    exact owns_fr hown hfr (fun q hq e => by have := (owns_block hown q hq).1; omega)
  · rw [cell_set_ne (by simp)]; exact hf.cell h.c0 hne
  · rw [cell_set_ne (by simp)]; exact hf.cell h.c1 hne
  · exact cell_set_eq (hf.cell h.c2 hne)
  · exact (hf.mono (fun i _ hi => Or.inr hi)).trans (hfr.mono (fun i _ hi => Or.inl hi))
end Go.Proofs.YteoalcmhdoopnaaDoor
