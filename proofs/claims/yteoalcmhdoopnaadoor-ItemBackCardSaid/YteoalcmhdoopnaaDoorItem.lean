/- Items in memory: their fields' cells; what is too great; a field that can be; two names. -/
import Derived.Test.YteoalcmhdoopnaaDoorIt
import Derived.Test.YteoalcmhdoopnaaDoorWhole
import Derived.Test.YteoalcmhdoopnaaDoorQuiet
import Derived.Laws.StructEq
namespace Go.Proofs.YteoalcmhdoopnaaDoor
open Go.RowKit

def flds (fs : List Fld) : List Value := fs.flatMap fcells
theorem flds_nil : flds [] = [] := rfl
theorem flds_cons (f : Fld) (fs : List Fld) : flds (f :: fs) = .string f.1 :: .string f.2 :: flds fs := rfl
theorem flds_append (a b : List Fld) : flds (a ++ b) = flds a ++ flds b := by unfold flds; rw [List.flatMap_append]
theorem flds_len : ∀ (fs : List Fld), (flds fs).length = fs.length * 2
  | [] => rfl
  | f :: fs => by rw [flds_cons, List.length_cons, List.length_cons, flds_len fs, List.length_cons]; omega
theorem flds_get : ∀ {fs : List Fld} {j : Nat} {f : Fld}, fs[j]? = some f → (flds fs)[j * 2]? = some (.string f.1) ∧ (flds fs)[j * 2 + 1]? = some (.string f.2)
  | [], j, f, h => by simp at h
  | g :: fs, 0, f, h => by simp at h; subst h; exact ⟨rfl, rfl⟩
  | g :: fs, j + 1, f, h => by
    rw [flds_cons]
    have := flds_get (fs := fs) (j := j) (by simpa using h)
    rw [show (j + 1) * 2 = j * 2 + 1 + 1 by omega]
    simpa using this
/-- The fields in memory. -/
def RF (w : World) (a : Option Addr) (n cap : Nat) (fs : List Fld) : Prop := Reads w 2 (.slice a n cap) n (flds fs)
theorem RF.len {w : World} {a : Option Addr} {n cap : Nat} {fs : List Fld} (h : RF w a n cap fs) : fs.length = n := by
  have := (Reads.len h).2; rw [flds_len] at this; omega
theorem RF.at {w : World} {a : Option Addr} {n cap : Nat} {fs : List Fld} (h : RF w a n cap fs) {j : Nat} (hj : j < n) :
    ∃ (b o : Nat) (f : Fld), fs[j]? = some f ∧ a = some ⟨b, o, none⟩ ∧ w.cell? ⟨b, o + j * 2, none⟩ = some (.string f.1) ∧ w.cell? ⟨b, o + j * 2 + 1, none⟩ = some (.string f.2) := by
  have hl := h.len
  have hj' : j < fs.length := by omega
  have hf : fs[j]? = some fs[j] := List.getElem?_eq_getElem hj'
  obtain ⟨h1, h2⟩ := flds_get hf
  obtain ⟨b, o, ha, hc⟩ := Reads.at h (j := j * 2) (by rw [flds_len]; omega)
  exact ⟨b, o, fs[j], hf, ha, hc _ _ h1, hc _ _ h2⟩
theorem RF.below {w w' : World} {a : Option Addr} {n cap : Nat} {fs : List Fld} (h : RF w a n cap fs) (hb : Below w.heap.size w w') : RF w' a n cap fs := Reads.below h hb
theorem RF.belowB {W w w' : World} {B : Nat} {a : Option Addr} {n cap : Nat} {fs : List Fld} (h : RF W a n cap fs) (hB : W.heap.size ≤ B) (hb : Below B W w') : RF w' a n cap fs := Reads.below h (hb.mono hB)
theorem take_all {α : Type} {p : α → Prop} {l : List α} {k : Nat} {x : α} (h : ∀ y ∈ l.take k, p y) (hx : l[k]? = some x) (hp : p x) : ∀ y ∈ l.take (k + 1), p y := by
  obtain ⟨hk, rfl⟩ := List.getElem?_eq_some_iff.1 hx
  intro y hy
  rw [List.take_succ_eq_append_getElem hk] at hy
  rcases List.mem_append.1 hy with hy | hy
  · exact h y hy
  · simp only [List.mem_singleton] at hy; subst hy; exact hp
theorem take_whole {α : Type} {p : α → Prop} {l : List α} {k : Nat} (h : ∀ y ∈ l.take k, p y) (hk : l.length = k) : ∀ y ∈ l, p y := by
  intro y hy; exact h y (by rw [List.take_of_length_le (by omega)]; exact hy)
theorem bcell {w w' : World} (hb : Below w.heap.size w w') {b q : Nat} {u : Value} (h : w.cell? ⟨b, q, none⟩ = some u) : w'.cell? ⟨b, q, none⟩ = some u := by
  rw [hb.cell (by exact World.block_lt_of_cell? _ _ h)]; exact h

def smallF (f : Fld) : Prop := f.1.size ≤ 600 ∧ f.2.size ≤ 5000
def GreatP (w : World) (n : Nat) (t : ByteArray) (fs : List Fld) (e : Ending) (w' : World) : Prop := ∃ g : Bool, e = .returned (.bool g) ∧ (g = false → n ≤ 300 ∧ t.size ≤ 5000 ∧ ∀ f ∈ fs, smallF f) ∧ Below w.heap.size w w'
theorem greatP_true {w w' : World} {n : Nat} {t : ByteArray} {fs : List Fld} {e : Ending} (h : e = .returned (.bool true)) (hb : Below w.heap.size w w') : GreatP w n t fs e w' := ⟨true, h, fun h => (by cases h), hb⟩
set_option maxRecDepth 100000 in
set_option maxHeartbeats 1600000 in
theorem great_any (k : Int) (t : ByteArray) (a : Option Addr) (n cap : Nat) (fs : List Fld) (w : World) (hr : RF w a n cap fs) :
    Calls Tryd.prog 9 #[.agg #[.int .i64 k, .string t, .slice a n cap]] w (GreatP w n t fs) := by
  have hl := hr.len
  have hal := (Below.refl w.heap.size w).alloc (Nat.le_refl _) (.cells #[.int .i64 k, .string t, .slice a n cap] 24)
  replace hal := Lib.hid hal
  by_cases c1 : 300 < n
  · clear hr hl
    have c1' : (300 : Int) < n := by omega
    go_enter Tryd.func9, Tryd.ntmps9
    go_wp2
    go_ret
    exact greatP_true rfl hal.out
  have c1' : ¬ (300 : Int) < n := by omega
  by_cases c2 : 5000 < t.size
  · clear hr hl
    have c2' : (5000 : Int) < t.size := by omega
    go_enter Tryd.func9, Tryd.ntmps9
    go_wp2
    go_ret
    exact greatP_true rfl hal.out
  have c2' : ¬ (5000 : Int) < t.size := by omega
  replace hl := Lib.hid hl
  replace hr := Lib.hid hr
  go_enter Tryd.func9, Tryd.ntmps9
  go_wp2_with fail
  go_loopw [18] (fun i wr => ∃ j : Nat, j ≤ n ∧ i = .int .i64 j ∧ (∀ f ∈ fs.take j, smallF f) ∧ Below w.heap.size w wr) (fun i _ => n - (intOf i).toNat)
  case atStart => exact ⟨0, Nat.zero_le _, rfl, by simp, hal.out⟩
  case round =>
    obtain ⟨j, hj, rfl, htk, hbel⟩ := hrel
    replace htk := Lib.hid htk
    by_cases hlt : j < n
    · obtain ⟨b, o, f, hf, rfl, d0, d1⟩ := hr.out.at hlt
      replace d0 := bcell hbel d0
      replace d1 := bcell hbel d1
      have hal2 := hbel.alloc hbel.size (.cells #[.string f.1, .string f.2] 30)
      replace hal2 := Lib.hid hal2
      replace hf := Lib.hid hf
      by_cases e1 : 600 < f.1.size
      · have e1' : (600 : Int) < f.1.size := by omega
        go_wp2
        go_ret
        exact greatP_true rfl hal2.out
      have e1' : ¬ (600 : Int) < f.1.size := by omega
      by_cases e2 : 5000 < f.2.size
      · have e2' : (5000 : Int) < f.2.size := by omega
        go_wp2
        go_ret
        exact greatP_true rfl hal2.out
      have e2' : ¬ (5000 : Int) < f.2.size := by omega
      go_wp2
      go_roundw
      case rel => exact ⟨j + 1, by omega, by go_num, take_all htk.out hf.out ⟨by omega, by omega⟩, hal2.out⟩
      case measure => simp [intOf]; omega
    · have hjn : j = n := by omega
      subst hjn
      go_wp2
      go_ret
      exact ⟨false, rfl, fun _ => ⟨by omega, by omega, take_whole htk.out hl.out⟩, hbel⟩

def fineF (f : Fld) : Prop := f.1.size ≤ 512 ∧ f.2.size ≤ 4096
theorem field_q (f : Fld) (q : Bool) (hq : q = true ↔ fineF f) (w : World) : Calls Tryd.prog 28 #[.agg #[.string f.1, .string f.2]] w fun e w' => e = .returned (.bool q) ∧ Below w.heap.size w w' := by
  have hal := (Below.refl w.heap.size w).alloc (Nat.le_refl _) (.cells #[.string f.1, .string f.2] 30)
  replace hal := Lib.hid hal
  unfold fineF at hq
  by_cases c1 : f.1.size ≤ 512
  · have c1' : (f.1.size : Int) ≤ 512 := by omega
    by_cases c2 : f.2.size ≤ 4096
    · have c2' : (f.2.size : Int) ≤ 4096 := by omega
      obtain rfl : q = true := hq.2 ⟨c1, c2⟩
      clear hq
      go_enter Tryd.func28, Tryd.ntmps28
      go_wp2
      go_ret
      exact ⟨rfl, hal.out⟩
    · have c2' : ¬ (f.2.size : Int) ≤ 4096 := by omega
      obtain rfl : q = false := by cases q with | false => rfl | true => exact absurd (hq.1 rfl).2 c2
      clear hq
      go_enter Tryd.func28, Tryd.ntmps28
      go_wp2
      go_ret
      exact ⟨rfl, hal.out⟩
  · have c1' : ¬ (f.1.size : Int) ≤ 512 := by omega
    obtain rfl : q = false := by cases q with | false => rfl | true => exact absurd (hq.1 rfl).1 c1
    clear hq
    go_enter Tryd.func28, Tryd.ntmps28
    go_wp2
    go_ret
    exact ⟨rfl, hal.out⟩
theorem byName_any (f g : Fld) (w : World) : Calls Tryd.prog 29 #[.agg #[.string f.1, .string f.2], .agg #[.string g.1, .string g.2]] w fun e w' => e = .returned (.int .i64 (cmpB f.1 g.1)) ∧ Below w.heap.size w w' := by
  have hal := ((Below.refl w.heap.size w).alloc (Nat.le_refl _) (.cells #[.string f.1, .string f.2] 30)).alloc (by simp) (.cells #[.string g.1, .string g.2] 30)
  replace hal := Lib.hid hal
  go_enter Tryd.func29, Tryd.ntmps29
  go_wp2_with (go_at_call 39; refine (Tryd.strings_Compare _ _ _).mono ?_; rintro e w' ⟨rfl, rfl⟩)
  go_ret
  exact ⟨rfl, hal.out⟩
end Go.Proofs.YteoalcmhdoopnaaDoor
