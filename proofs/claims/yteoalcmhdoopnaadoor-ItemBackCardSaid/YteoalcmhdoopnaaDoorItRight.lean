/- item.Right and the document's: whether an item can be. -/
import Derived.Test.YteoalcmhdoopnaaDoorItem
import Derived.Laws.Cover1
import Derived.Deep.DeepCutAuto
import Derived.IntWalk
namespace Go.Proofs.YteoalcmhdoopnaaDoor
open Go.RowKit

def RightP (k : Int) (t : ByteArray) (fs : List Fld) : Prop := (k = 1 ∧ t.size ≤ 4096 ∧ fs.length = 0) ∨ (k = 2 ∧ t = ⟨#[]⟩ ∧ 1 ≤ fs.length ∧ fs.length ≤ 256 ∧ (∀ f ∈ fs, fineF f) ∧ Srt fs)
/-- Each field stands behind the one ahead of it. -/
def Adj (fs : List Fld) : Prop := ∀ (k : Nat) (h : k + 1 < fs.length), cmpB fs[k].1 fs[k + 1].1 < 0
theorem srt_of_adj {fs : List Fld} (h : Adj fs) : Srt fs := by
  unfold Srt
  rw [List.pairwise_iff_getElem]
  intro i j hi hj hij
  induction j with
  | zero => omega
  | succ j ih =>
    rcases Nat.eq_or_lt_of_le (Nat.le_of_lt_succ hij) with e | e
    · subst e; exact h i hj
    · exact cmpB_trans (ih (by omega) e) (h j hj)
theorem adj_of_srt {fs : List Fld} (h : Srt fs) : Adj fs := fun k hk => List.pairwise_iff_getElem.1 h k (k + 1) (by omega) hk (by omega)
theorem adj_take {fs : List Fld} {k : Nat} {f : Fld} (h : Adj (fs.take k)) (hf : fs[k]? = some f) (hp : ∀ g, k ≠ 0 → fs[k - 1]? = some g → cmpB g.1 f.1 < 0) : Adj (fs.take (k + 1)) := by
  obtain ⟨hk, rfl⟩ := List.getElem?_eq_some_iff.1 hf
  intro j hj
  rw [List.length_take] at hj
  rw [List.getElem_take, List.getElem_take]
  rcases Nat.lt_or_ge (j + 1) k with h1 | h1
  · have := h j (by rw [List.length_take]; omega)
    rwa [List.getElem_take, List.getElem_take] at this
  · have : j + 1 = k := by omega
    subst this
    exact hp fs[j] (by omega) (by simp)
theorem bytesLess_cmp : ∀ (a b : List UInt8), Op.bytesLess a b = decide (Lib.compareBytes a b < 0)
  | [], [] => rfl
  | [], _ :: _ => rfl
  | _ :: _, [] => rfl
  | x :: a, y :: b => by
    unfold Op.bytesLess Lib.compareBytes
    by_cases h1 : x < y
    · simp [h1]
    · by_cases h2 : y < x
      · have hne : x ≠ y := fun e => by subst e; exact h1 h2
        simp [h1, h2, hne]
      · have he : x = y := UInt8.toNat_inj.1 (by rw [UInt8.lt_iff_toNat_lt] at h1 h2; omega)
        subst he
        simp [bytesLess_cmp a b]

theorem toList_data (a : ByteArray) : a.toList = a.data.toList := ByteArray.toList_eq a
/-- Whether so it is; the world grows. -/
def QP (w : World) (p : Prop) (e : Ending) (w' : World) : Prop := ∃ q : Bool, e = .returned (.bool q) ∧ (q = true ↔ p) ∧ Below w.heap.size w w'
theorem qp_true {w w' : World} {p : Prop} {e : Ending} (h : e = .returned (.bool true)) (hp : p) (hb : Below w.heap.size w w') : QP w p e w' := ⟨true, h, ⟨fun _ => hp, fun _ => rfl⟩, hb⟩
theorem qp_false {w w' : World} {p : Prop} {e : Ending} (h : e = .returned (.bool false)) (hp : ¬ p) (hb : Below w.heap.size w w') : QP w p e w' := ⟨false, h, ⟨fun h => (by cases h), fun h => absurd h hp⟩, hb⟩
theorem qp_dec {w w' : World} {p : Prop} {b : Bool} {e : Ending} (h : e = .returned (.bool b)) (hp : b = true ↔ p) (hb : Below w.heap.size w w') : QP w p e w' := ⟨b, h, hp, hb⟩
theorem qp_q {w : World} {P : Program} {f : FuncId} {args : Array Value} {p : Prop} {q : Bool} (h : Calls P f args w (QP w p)) (hq : q = true ↔ p) : Calls P f args w fun e w' => e = .returned (.bool q) ∧ Below w.heap.size w w' :=
  h.mono fun e w' ⟨b, he, hb, hbl⟩ => ⟨by
    have : b = q := by rw [Bool.eq_iff_iff]; exact hb.trans hq.symm
    rw [he, this], hbl⟩

set_option maxRecDepth 100000 in
set_option maxHeartbeats 6400000 in
theorem right_any (k : Int) (t : ByteArray) (a : Option Addr) (n cap : Nat) (fs : List Fld) (w : World) (hr : RF w a n cap fs) (hn : n ≤ 100000000) :
    Calls Tryd.prog 11 #[.agg #[.int .i64 k, .string t, .slice a n cap]] w (QP w (RightP k t fs)) := by
  have hl := hr.len
  have hal := (Below.refl w.heap.size w).alloc (Nat.le_refl _) (.cells #[.int .i64 k, .string t, .slice a n cap] 24)
  replace hal := Lib.hid hal
  by_cases k1 : k = 1
  · subst k1
    have hiff : RightP 1 t fs ↔ t.size ≤ 4096 ∧ n = 0 := by unfold RightP; rw [hl]; simp
    replace hiff := Lib.hid hiff
    clear hr hl
    by_cases c1 : t.size ≤ 4096
    · have c1' : (t.size : Int) ≤ 4096 := by omega
      by_cases c2 : n = 0
      · have c2' : ((n : Int) == 0) = true := by simp [c2]
        replace c2 := Lib.hid c2
        go_enter Tryd.func11, Tryd.ntmps11
        go_wp2
        go_ret
        exact qp_true rfl (hiff.out.2 ⟨c1, c2.out⟩) hal.out
      · have c2' : ((n : Int) == 0) = false := by simp [c2]
        go_enter Tryd.func11, Tryd.ntmps11
        go_wp2
        go_ret
        exact qp_false rfl (fun h => c2 (hiff.out.1 h).2) hal.out
    · have c1' : ¬ (t.size : Int) ≤ 4096 := by omega
      go_enter Tryd.func11, Tryd.ntmps11
      go_wp2
      go_ret
      exact qp_false rfl (fun h => c1 (hiff.out.1 h).1) hal.out
  have k1' : (k == 1) = false := by simpa using k1
  by_cases k2 : k = 2
  case neg =>
    have k2' : (k == 2) = false := by simpa using k2
    have hno : ¬ RightP k t fs := by unfold RightP; rintro (⟨h, _⟩ | ⟨h, _⟩); exact k1 h; exact k2 h
    replace hno := Lib.hid hno
    clear hr hl k1 k2
    go_enter Tryd.func11, Tryd.ntmps11
    go_wp2
    go_ret
    exact qp_false rfl hno.out hal.out
  subst k2
  clear k1 k1'
  replace hl := Lib.hid hl
  replace hr := Lib.hid hr
  go_enter Tryd.func11, Tryd.ntmps11
  go_wp2_with fail
  go_loopw [24] (fun i wr => ∃ j : Nat, j ≤ n ∧ i = .int .i64 j ∧ (∀ f ∈ fs.take j, fineF f) ∧ Adj (fs.take j) ∧ Below w.heap.size w wr ∧ wr.cell? ⟨w.heap.size, 0, none⟩ = some (.int .i64 2) ∧ wr.cell? ⟨w.heap.size, 1, none⟩ = some (.string t) ∧ wr.cell? ⟨w.heap.size, 2, none⟩ = some (.slice a n cap)) (fun i _ => n - (intOf i).toNat)
  case atStart => exact ⟨0, Nat.zero_le _, rfl, by simp, (fun j hj => by simp at hj), hal.out, World.cell?_alloc_new _ _ _ 0, World.cell?_alloc_new _ _ _ 1, World.cell?_alloc_new _ _ _ 2⟩
  case round =>
    obtain ⟨j, hj, rfl, htk, hadj, hbel, g0, g1, g2⟩ := hrel
    replace htk := Lib.hid htk
    replace hadj := Lib.hid hadj
    by_cases hlt : j < n
    · obtain ⟨b, o, f, hf, rfl, d0, d1⟩ := hr.out.at hlt
      replace d0 := bcell hbel d0
      replace d1 := bcell hbel d1
      have hgb := World.block_lt_of_cell? _ _ g0
      obtain ⟨W7, hW7⟩ : ∃ W7, W7 = wr.alloc (.cells #[.string f.1, .string f.2] 30) := ⟨_, rfl⟩
      have hb7 : Below w.heap.size w W7 := by rw [hW7]; exact hbel.alloc hbel.size _
      have hbw : Below wr.heap.size wr W7 := by rw [hW7]; exact (Below.refl _ _).alloc (Nat.le_refl _) _
      have p0 : W7.cell? ⟨wr.heap.size, 0, none⟩ = some (.string f.1) := by rw [hW7, World.cell?_alloc_new]; rfl
      have p1 : W7.cell? ⟨wr.heap.size, 1, none⟩ = some (.string f.2) := by rw [hW7, World.cell?_alloc_new]; rfl
      have z7 : W7.heap.size = wr.heap.size + 1 := by rw [hW7]; simp
      go_upto_region 8 with fail
      rw [← hW7]
      replace hf := Lib.hid hf
      replace g0 := bcell hbw g0
      replace g1 := bcell hbw g1
      replace g2 := bcell hbw g2
      clear d0 d1
      replace hW7 := Lib.hid hW7
      have z8 : wr.heap.size < W7.heap.size := by omega
      have z9 : w.heap.size < W7.heap.size := World.block_lt_of_cell? _ _ g0
      replace z7 := Lib.hid z7
      by_cases hfine : fineF f
      case neg =>
        have hq : false = true ↔ fineF f := ⟨fun h => (by cases h), fun h => absurd h hfine⟩
        have hby : True := trivial
        replace hq := Lib.hid hq
        replace hfine := Lib.hid hfine
        refine wp_region_grow (by kernel_rfl) (by kernel_rfl) ?_
        repeat (go_big_quiet_step ((go_at_call 28; (with_reducible exact quiet_grow (field_q f _ hq.out _)))))
        refine wpQuiet_nil ?_
        rintro _ ⟨xq, rfl⟩
        have hbq := hb7.trans ((grow_below W7 xq).mono hb7.size)
        clear p0 p1 g0 g1 g2
        go_wp2
        go_ret
        refine qp_false rfl (fun h => ?_) hbq
        rcases h with ⟨h, _⟩ | ⟨_, _, _, _, h, _⟩
        · cases h
        · exact hfine.out (h f (List.mem_of_getElem? hf.out))
      have hq : true = true ↔ fineF f := ⟨fun _ => hfine, fun _ => rfl⟩
      replace hq := Lib.hid hq
      replace hfine := Lib.hid hfine
      by_cases hj0 : j = 0
      · subst hj0
        have hadj' : Adj (fs.take 1) := adj_take hadj.out hf.out (fun g h => absurd rfl h)
        replace hadj' := Lib.hid hadj'
        refine wp_region_grow (by kernel_rfl) (by kernel_rfl) ?_
        repeat (go_big_quiet_step ((go_at_call 28; (with_reducible exact quiet_grow (field_q f _ hq.out _)))))
        refine wpQuiet_nil ?_
        rintro _ ⟨xq, rfl⟩
        have hbq := hb7.trans ((grow_below W7 xq).mono hb7.size)
        have gg0 := bcell (grow_below W7 xq) g0
        have gg1 := bcell (grow_below W7 xq) g1
        have gg2 := bcell (grow_below W7 xq) g2
        clear p0 p1 g0 g1 g2
        go_wp2
        go_roundw
        case rel => exact ⟨1, by omega, by go_num, take_all htk.out hf.out hfine.out, hadj'.out, hbq, gg0, gg1, gg2⟩
        case measure => simp [intOf]; omega
      · obtain ⟨m, hm⟩ : ∃ m, j = m + 1 := ⟨j - 1, by omega⟩
        obtain ⟨b', o', g, hg, hab, e0, e1⟩ := hr.out.at (show m < n by omega)
        simp only [Option.some.injEq, Addr.mk.injEq, and_true] at hab
        obtain ⟨rfl, rfl⟩ := hab
        replace e0 := bcell (hb7) e0
        replace e1 := bcell (hb7) e1
        have hj1 : 0 < j := by omega
        have hj2 : IntKind.i64.wrap ((j : Int) - 1) = (m : Int) := by rw [IntWalk.i64_in _ (by omega)]; omega
        have hm0 : (0 : Int) ≤ (m : Int) := by omega
        have hm1 : (m : Int) < (n : Int) := by omega
        have zb : b < W7.heap.size := World.block_lt_of_cell? _ _ e0
        replace hg := Lib.hid hg
        obtain ⟨c, hc⟩ : ∃ c, c = cmpB g.1 f.1 := ⟨_, rfl⟩
        have hby : ∀ w, Calls Tryd.prog 29 #[.agg #[.string g.1, .string g.2], .agg #[.string f.1, .string f.2]] w fun e w' => e = .returned (.int .i64 c) ∧ Below w.heap.size w w' := fun w => by rw [hc]; exact byName_any g f w
        replace hby := Lib.hid hby
        replace hc := Lib.hid hc
        by_cases hcn : c < 0
        · have hcn' : ¬ (0 : Int) ≤ c := by omega
          have hadj' : Adj (fs.take (j + 1)) := adj_take hadj.out hf.out (fun g' _ h => by
            have e : fs[m]? = some g' := by rw [← h, hm]; rfl
            have : g' = g := by have := hg.out; rw [e] at this; exact Option.some.inj this
            rw [this, ← hc.out]; exact hcn)
          replace hadj' := Lib.hid hadj'
          replace hm := Lib.hid hm
          refine wp_region_grow (by kernel_rfl) (by kernel_rfl) ?_
          repeat (go_big_quiet_step ((first
            | (go_at_call 28; (with_reducible exact quiet_grow (field_q f _ hq.out _)))
            | (go_at_call 29; (with_reducible exact quiet_grow (hby.out _))))))
          refine wpQuiet_nil ?_
          rintro _ ⟨xq, rfl⟩
          have hbq := hb7.trans ((grow_below W7 xq).mono hb7.size)
          have gg0 := bcell (grow_below W7 xq) g0
          have gg1 := bcell (grow_below W7 xq) g1
          have gg2 := bcell (grow_below W7 xq) g2
          clear p0 p1 g0 g1 g2 e0 e1 hj2 hm0 hm1
          go_wp2
          go_roundw
          case rel => exact ⟨j + 1, by omega, by go_num, take_all htk.out hf.out hfine.out, hadj'.out, hbq, gg0, gg1, gg2⟩
          case measure => simp [intOf]; omega
        · have hcn' : (0 : Int) ≤ c := by omega
          have hno : ¬ RightP 2 t fs := by
            rintro (⟨h, _⟩ | ⟨_, _, _, _, _, h⟩)
            · cases h
            · obtain ⟨hjl, hfe⟩ := List.getElem?_eq_some_iff.1 hf.out
              obtain ⟨hml, hge⟩ := List.getElem?_eq_some_iff.1 hg.out
              have := List.pairwise_iff_getElem.1 h m j hml hjl (by omega)
              rw [hfe, hge, ← hc.out] at this
              exact hcn this
          replace hno := Lib.hid hno
          replace hm := Lib.hid hm
          refine wp_region_grow (by kernel_rfl) (by kernel_rfl) ?_
          repeat (go_big_quiet_step ((first
            | (go_at_call 28; (with_reducible exact quiet_grow (field_q f _ hq.out _)))
            | (go_at_call 29; (with_reducible exact quiet_grow (hby.out _))))))
          refine wpQuiet_nil ?_
          rintro _ ⟨xq, rfl⟩
          have hbq := hb7.trans ((grow_below W7 xq).mono hb7.size)
          clear p0 p1 g0 g1 g2 e0 e1 hj2 hm0 hm1
          go_wp2
          go_ret
          exact qp_false rfl hno.out hbq
    · have hjn : j = n := by omega
      subst hjn
      have hsrt : Srt fs := srt_of_adj (by have := hadj.out; rwa [List.take_of_length_le (by rw [hl.out]; exact Nat.le_refl _)] at this)
      have hall : ∀ f ∈ fs, fineF f := take_whole htk.out hl.out
      have hiff : RightP 2 t fs ↔ t = ⟨#[]⟩ ∧ 1 ≤ j ∧ j ≤ 256 := by
        unfold RightP; rw [hl.out]
        constructor
        · rintro (⟨h, _⟩ | ⟨_, h1, h2, h3, _⟩)
          · cases h
          · exact ⟨h1, h2, h3⟩
        · rintro ⟨h1, h2, h3⟩; exact Or.inr ⟨rfl, h1, h2, h3, hall, hsrt⟩
      replace hiff := Lib.hid hiff
      clear hsrt hall htk hadj hr hl
      by_cases c1 : t = ⟨#[]⟩
      · subst c1
        by_cases c2 : 1 ≤ j
        · have c2' : (1 : Int) ≤ j := by omega
          by_cases c3 : j ≤ 256
          · have c3' : (j : Int) ≤ 256 := by omega
            go_wp2
            go_ret
            exact qp_true rfl (hiff.out.2 ⟨by trivial, c2, c3⟩) hbel
          · have c3' : ¬ (j : Int) ≤ 256 := by omega
            go_wp2
            go_ret
            exact qp_false rfl (fun h => c3 (hiff.out.1 h).2.2) hbel
        · have c2' : ¬ (1 : Int) ≤ j := by omega
          go_wp2
          go_ret
          exact qp_false rfl (fun h => c2 (hiff.out.1 h).2.1) hbel
      · have c1' : (t.toList == (⟨#[]⟩ : ByteArray).toList) = false := str_ne c1
        have c1'' : t.toList.isEmpty = false := by
          cases h : t.toList with
          | nil => exact absurd (toList_inj' (b := ⟨#[]⟩) (by rw [h, ByteArray.toList_eq])) c1
          | cons x r => rfl
        have c1e : ¬ t.toList = [] := by intro h; rw [h] at c1''; cases c1''
        replace c1 := Lib.hid c1
        go_wp2
        go_ret
        exact qp_false rfl (fun h => c1.out (hiff.out.1 h).1) hbel
end Go.Proofs.YteoalcmhdoopnaaDoor
