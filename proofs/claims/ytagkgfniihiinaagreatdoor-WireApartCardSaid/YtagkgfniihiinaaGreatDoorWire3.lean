/- WireCommands: its walk. -/
import Derived.Test.YtagkgfniihiinaaGreatDoorJ14
import Derived.Deep.AppendLies
namespace Go.Proofs.YtagkgfniihiinaaGreatDoor
open Go.RowKit Go.Joins

theorem addr_add0 (g q : Nat) : (⟨g, 0, none⟩ : Addr).add q = ⟨g, q, none⟩ := by
  unfold Addr.add; split <;> simp_all
/-- A row of bytes as a text. -/
theorem Row.back {B : Nat} {w : World} {v : Value} {s : ByteArray} (h : Row B w v s) (hs : 0 < s.size) : (convert 27 9 v).run Tryz.prog w = .ok (.string s) w := by
  obtain ⟨g, ca, rfl, hg1, hg2⟩ := h.own.form (by omega)
  have hl : s.size = s.data.toList.length := by rw [Array.length_toList]; rfl
  have h7 := run_convert_bytes_back (P := Tryz.prog) w 27 9 5 ⟨g, 0, none⟩ ca s.data.toList Tryz.underlying27 Tryz.underlying5 Tryz.underlying9 (fun q hq => by
    have h9 := addr_add0 g q
    have h8 := h.own.cellAt q (by rw [hl]; simpa using hq)
    rw [h9, h8, Lib.strCells, List.getElem?_map, List.getElem?_eq_getElem hq]
    rfl)
  rw [← hl] at h7
  rw [h7]
theorem Row.len {B : Nat} {w : World} {v : Value} {s : ByteArray} (h : Row B w v s) (hs : 0 < s.size) : ∃ g ca, v = .slice (some ⟨g, 0, none⟩) s.size ca := by
  obtain ⟨g, ca, rfl, _⟩ := h.own.form (by omega)
  exact ⟨g, ca, rfl⟩
theorem reads_new1 (ks : List ByteArray) (n : Nat) (hn : ks.length = n) (w : World) : Reads (w.alloc (.cells (ks.map Value.string).toArray 9)) 1 (.slice (some ⟨w.heap.size, 0, none⟩) n n) n (ks.map Value.string) :=
  ⟨_, _, rfl, by simp [hn], fun j u h => ⟨w.heap.size, 0, rfl, by rw [Nat.zero_add, World.cell?_alloc_new]; simpa using h⟩⟩
def exA : ByteArray := ⟨#[42, 49, 13, 10, 36, 49, 13, 10, 97, 13, 10]⟩
theorem exA_eq : commandB [⟨#[97]⟩] = exA := by decide +kernel
theorem exA_lit : (exA.toList == [42, 49, 13, 10, 36, 49, 13, 10, 97, 13, 10]) = true := by decide +kernel
set_option maxRecDepth 100000 in
set_option maxHeartbeats 1600000 in
theorem alive04_any (w : World) (hL : Laid w.heap.size w) : Calls Tryz.prog 15 #[] w fun e w' => e = .returned (.bool true) ∧ Below w.heap.size w w' := by
  have hrd : Reads (w.alloc (.cells #[.string ⟨#[97]⟩] 9)) 1 (.slice (some ⟨w.heap.size, 0, none⟩) 1 1) 1 ([(⟨#[97]⟩ : ByteArray)].map Value.string) := reads_new1 [⟨#[97]⟩] 1 rfl w
  have hb1 := (Below.refl w.heap.size w).alloc (Nat.le_refl _) (.cells #[.string ⟨#[97]⟩] 9)
  have hL1 := (hL.below hb1 (Nat.le_refl _)).mono hb1.size
  replace hrd := Lib.hid hrd
  replace hL1 := Lib.hid hL1
  replace hb1 := Lib.hid hb1
  clear hL
  go_enter Tryz.func15, Tryz.ntmps15
  go_wp2_with fail
  refine (command_any hrd.out (by intro t ht; rw [List.mem_singleton] at ht; subst ht; decide) (by omega) hL1.out).mono ?_
  rintro e w2 ⟨v2, rfl, hR2, hb2⟩
  rw [exA_eq] at hR2
  have hb3 := hb1.out.trans (hb2.mono hb1.out.size)
  have hcv := hR2.back (by decide)
  clear hR2 hb2 hL1 hrd hb1
  replace hb3 := Lib.hid hb3
  go_wp2_with fail
  go_ret
  refine ⟨?_, hb3.out⟩
  show Ending.returned (.bool (exA.toList == [42, 49, 13, 10, 36, 49, 13, 10, 97, 13, 10])) = _
  rw [exA_lit]
theorem RV.bulk (c : Addr → Option Value) (t : ByteArray) : RV c (cells6 4 t 0 0 false none 0 0) (bulkV t) := RV.leaf c 4 t 0 0 false none 0
def bulkC (t : ByteArray) : List Value := cells6 4 t 0 0 false none 0 0
theorem bulks_rv (c : Addr → Option Value) : ∀ l : List ByteArray, RVs c (l.map bulkC) (l.map bulkV)
  | [] => RVs.nil c
  | t :: l => by
    refine ⟨by simp, fun j x y hx hy => ?_⟩
    cases j with
    | zero =>
      simp only [List.map_cons, List.getElem?_cons_zero, Option.some.injEq] at hx hy
      subst hx; subst hy
      exact RV.bulk c t
    | succ j => exact (bulks_rv c l).2 j x y (by simpa using hx) (by simpa using hy)
theorem range_below {w w' : World} {b o : Nat} {cs : List Value} (hb : Below w.heap.size w w') (h : w.rangeAt b o cs) : w'.rangeAt b o cs := fun j u hj => cell_below hb _ _ (h j u hj)
theorem Row.mono {B B' : Nat} {w : World} {v : Value} {s : ByteArray} (h : Row B w v s) (hB : B' ≤ B) : Row B' w v s := by
  refine ⟨h.own.1, ?_⟩
  rcases h.own.2 with h2 | ⟨g, cap, cur, e1, e2, e3⟩
  · exact Or.inl h2
  · exact Or.inr ⟨g, cap, cur, e1, by omega, e3⟩
def wcR (i : Nat) (w w' : World) : Prop := match i with | 1 | 4 => Below w.heap.size w w' | _ => w' = w
set_option maxRecDepth 100000 in
set_option maxHeartbeats 6400000 in
theorem commandsL_any {w : World} {a : Option Addr} {n ca : Nat} {l : List ByteArray} (hx : Reads w 1 (.slice a n ca) n (l.map Value.string)) (hs : ∀ t ∈ l, t.size ≤ 9223372036854775807) (hN : Nums w) :
    Calls Tryz.prog 6 #[.slice a n ca] w fun e w' => e = .returned (.bool true) ∧ Below w.heap.size w w' := by
  have lx := hx.len.2
  simp only [List.length_map, Nat.mul_one] at lx
  have hL := Laid.of hN
  by_cases hbig : 100 < n
  · have hbz : (100 : Int) < n := by omega
    clear lx hx
    replace hL := Lib.hid hL
    clear hN
    go_enter Tryz.func6, Tryz.ntmps6
    go_wp2_with fail
    refine (alive04_any w hL.out).mono ?_
    rintro e w1 ⟨rfl, hb1⟩
    go_wp2
    go_ret
    exact ⟨rfl, hb1⟩
  · have hbz : ¬ (100 : Int) < n := by omega
    replace lx := Lib.hid lx
    replace hx := Lib.hid hx
    replace hs := Lib.hid hs
    replace hL := Lib.hid hL
    clear hN
    go_enter Tryz.func6, Tryz.ntmps6
    go_wp2_with fail
    refine (alive04_any w hL.out).mono ?_
    rintro e w1 ⟨rfl, hb1⟩
    have hB1 := hb1.size
    replace hb1 := Lib.hid hb1
    go_wp2_with fail
    obtain ⟨W2, hW2⟩ : ∃ W2, W2 = w1.alloc (.cells #[.int .i64 5, .string ⟨#[]⟩, .int .i64 0, .float .f64 0, .bool false, .slice none 0 0] 26) := ⟨_, rfl⟩
    have hb2 : Below w.heap.size w W2 := by rw [hW2]; exact hb1.out.alloc hB1 _
    have hrg : W2.rangeAt w1.heap.size 0 [.int .i64 5, .string ⟨#[]⟩, .int .i64 0, .float .f64 0, .bool false, .slice none 0 0] := by
      rw [hW2]; intro q u hq; rw [Nat.zero_add, World.cell?_alloc_new]; simpa using hq
    have hbk : Blk W2 w1.heap.size := by rw [hW2]; exact Blk.new _ _ _
    have hs2 : W2.heap.size = w1.heap.size + 1 := by rw [hW2]; simp
    rw [← hW2]
    obtain ⟨b, hbe⟩ : ∃ b, b = w1.heap.size := ⟨_, rfl⟩
    rw [← hbe] at hrg hbk hs2 hB1 ⊢
    replace hW2 := Lib.hid hW2
    replace hbe := Lib.hid hbe
    replace hb2 := Lib.hid hb2
    replace hrg := Lib.hid hrg
    replace hbk := Lib.hid hbk
    replace hs2 := Lib.hid hs2
    clear hb1
    go_loopw [14] (fun i wr => ∃ (j : Nat) (lv : Value), j ≤ n ∧ i = .int .i64 j ∧ wr.ownsRow (b + 1) 26 6 lv j ((l.take j).map bulkC).flatten ∧ wr.rangeAt b 0 [.int .i64 5, .string ⟨#[]⟩, .int .i64 0, .float .f64 0, .bool false, lv] ∧ Blk wr b ∧ Below w.heap.size w wr ∧ b + 1 ≤ wr.heap.size ∧ ∀ t ∈ l.take j, t.size ≤ 500) (fun i _ => n - (intOf i).toNat)
    case atStart => exact ⟨0, _, Nat.zero_le _, rfl, World.ownsRow_nil _ _ _ _, hrg.out, hbk.out, hb2.out, by have := hs2.out; omega, by simp⟩
    case round =>
      obtain ⟨j, lv, hj, rfl, hown, hr, hk, hb, hsz, hall⟩ := hrel
      clear hrg hbk hb2 hs2
      by_cases hjn : j < n
      · have hjl : j < l.length := by have := lx.out; omega
        obtain ⟨b0, o0, he, hc⟩ := (hx.out.below hb).at (j := j) (by simpa using hjl)
        cases he
        have hc0 := hc j (.string l[j]) (by rw [List.getElem?_map, List.getElem?_eq_getElem hjl]; rfl)
        obtain ⟨t, ht⟩ : ∃ t, t = l[j] := ⟨_, rfl⟩
        rw [← ht] at hc0
        have hts : l.take (j + 1) = l.take j ++ [t] := by rw [ht]; exact List.take_succ_eq_append_getElem hjl
        have ht9 : t.size ≤ 9223372036854775807 := hs.out t (by rw [ht]; exact List.getElem_mem hjl)
        clear hc
        replace hts := Lib.hid hts
        replace ht := Lib.hid ht
        replace hall := Lib.hid hall
        replace hb := Lib.hid hb
        by_cases hbt : 500 < t.size
        · have hbti : (500 : Int) < t.size := by omega
          replace hown := Lib.hid hown
          replace hr := Lib.hid hr
          replace hk := Lib.hid hk
          go_wp2_with fail
          go_ret
          exact ⟨rfl, hb.out⟩
        · have hbti : ¬ (500 : Int) < t.size := by omega
          have g5 : wr.cell? ⟨b, 5, none⟩ = some lv := by have := hr 5 lv rfl; simpa using this
          have hjn9 : j < 1000000000 := by omega
          replace hr := Lib.hid hr
          replace hk := Lib.hid hk
          go_wp2_with (at_builtin; refine append_elem_at rfl rfl eVal rfl hown rfl rfl rfl hjn9 hsz ?_)
          intro v' w' hown' hf hn
          obtain ⟨a3, c3, rfl⟩ := (Reads.of_owns hown').shape
          have hob := owns_block hown
          have hnb : ∀ k, lv.ownBlock = some k → k ≠ b := fun k h => by have := (hob k h).1; omega
          have hr' : w'.rangeAt b 0 [.int .i64 5, .string ⟨#[]⟩, .int .i64 0, .float .f64 0, .bool false, lv] := fun q u hq => hf.cell (hr.out q u hq) (fun h => hnb _ h rfl)
          have hk' := hk.out.fr hf (fun h => hnb _ h rfl)
          have g5' : w'.cell? ⟨b, 5, none⟩ = some lv := by have := hr' 5 lv rfl; simpa using this
          have z5 := hk'.frz 5 none
          have hsz' : b + 1 ≤ w'.heap.size := Nat.le_trans hsz hf.size
          have hb' : Below w.heap.size w w' := Below.of_append hb.out hf (fun k h => by have := (hob k h).1; omega) (by have := hb.out.size; omega)
          clear hown hf hn hr hk hb g5 hob hnb
          replace hown' := Lib.hid hown'
          replace hr' := Lib.hid hr'
          replace hk' := Lib.hid hk'
          replace hb' := Lib.hid hb'
          go_wp2_with fail
          go_roundw
          case rel =>
            refine ⟨j + 1, .slice a3 (j + 1) c3, by omega, by go_num, ?_, ?_, hk'.out.setCell _ _, ?_, by simpa using hsz', ?_⟩
            · rw [hts.out, List.map_append, List.flatten_append]
              refine owns_fr (by simpa [bulkC, cells6] using hown'.out) (Fr.setCell (S := fun k => k = b) (Fr.refl _ _) (fun _ => rfl) _) (fun k h => ?_)
              have := (owns_block hown'.out k h).1
              omega
            · have g := hr'.out
              have e := fun q u (h : ([.int .i64 5, .string ⟨#[]⟩, .int .i64 0, .float .f64 0, .bool false, lv] : List Value)[q]? = some u) => g q u h
              refine range6 ?_ ?_ ?_ ?_ ?_ (cell_set_eq g5')
              · rw [cell_set_ne (by simp)]; exact e 0 _ rfl
              · rw [cell_set_ne (by simp)]; exact e 1 _ rfl
              · rw [cell_set_ne (by simp)]; exact e 2 _ rfl
              · rw [cell_set_ne (by simp)]; exact e 3 _ rfl
              · rw [cell_set_ne (by simp)]; exact e 4 _ rfl
            · exact hb'.out.trans ((Fr.setCell (S := fun k => k = b) (Fr.refl _ _) (fun _ => rfl) _).below hb'.out.size (fun i hi e => by omega))
            · intro u hu
              rw [hts.out, List.mem_append] at hu
              rcases hu with hu | hu
              · exact hall.out u hu
              · rw [List.mem_singleton] at hu; subst hu; omega
          case measure => simp [intOf]; omega
      · have hj9 : l.take j = l := List.take_of_length_le (by have := lx.out; omega)
        obtain rfl : j = n := by omega
        rw [hj9] at hown hall
        obtain ⟨a3, c3, rfl⟩ := (Reads.of_owns hown).shape
        have hrv : RV (newer (b + 1) wr) (cells6 5 ⟨#[]⟩ 0 0 false a3 j c3) (.mk 5 ⟨#[]⟩ 0 0 false (l.map bulkV)) :=
          RV.of_row (v := .mk 5 ⟨#[]⟩ 0 0 false (l.map bulkV)) (by simpa [V.list] using lx.out.symm) hown (bulks_rv _ l)
        have hrv2 := hrv.mono newer_all
        have hsmall : ∀ t ∈ l, t.size ≤ 1000000 := fun t ht => by have := hall t ht; omega
        have hL2 := hL.out.below hb (Nat.le_refl _)
        obtain ⟨W, hWe⟩ : ∃ W, W = wr := ⟨_, rfl⟩
        have hxW : Reads W 1 (.slice a j ca) j (l.map Value.string) := by rw [hWe]; exact hx.out.below hb
        rw [← hWe] at hr hrv2 hb hL2
        clear hrv hown hall hk hsz
        have hbW := hb.size
        have hpos : 0 < (commandB l).size := by
          unfold commandB numB
          have e1 : (⟨#[42]⟩ : ByteArray).size = 1 := rfl
          rw [ByteArray.size_append, ByteArray.size_append, ByteArray.size_append, e1]; omega
        obtain ⟨a9, ha9⟩ : ∃ a9, a9 = a := ⟨_, rfl⟩
        rw [← ha9] at hxW ⊢
        have hcmd : ∀ wx, Below W.heap.size W wx → Calls Tryz.prog 21 #[.slice a9 j ca] wx fun e w' => ∃ v, e = .returned v ∧ Below W.heap.size W w' ∧ Below wx.heap.size wx w' ∧ Row W.heap.size w' v (commandB l) ∧ Below W.heap.size W w' := fun wx hI =>
          (command_any (hxW.below hI) hsmall (by omega) ((hL2.below hI hbW).mono (Nat.le_trans hbW hI.size))).mono fun e w' ⟨v', he, hR, hb⟩ => ⟨v', he, hI.trans (hb.mono hI.size), hb, hR.mono hI.size, hI.trans (hb.mono hI.size)⟩
        have hbyt : ∀ wx, Below W.heap.size W wx → Calls Tryz.prog 22 #[.agg #[.int .i64 5, .string ⟨#[]⟩, .int .i64 0, .float .f64 0, .bool false, .slice a3 j c3], .int .i64 3] wx fun e w' => ∃ v, e = .returned v ∧ Below W.heap.size W w' ∧ Below wx.heap.size wx w' ∧ v = .string (commandB l) := fun wx hI =>
          (bytes4_arr (hrv2.mono (cell_below hI)) hsmall (by omega)).mono fun e w' ⟨he, hb⟩ => ⟨_, he, hI.trans (hb.mono hI.size), hb, rfl⟩
        clear hrv2 hxW hL2
        replace hcmd := Lib.hid hcmd
        replace hbyt := Lib.hid hbyt
        replace hr := Lib.hid hr
        go_wp2_with fail
        rw [← hWe]
        have hcmd := hcmd.out
        have hbyt := hbyt.out
        have hr := hr.out
        refine wp_region_rely (l := [_, _, _, _, _, _, _]) (Below W.heap.size W) (Below W.heap.size W) wcR (fun kG_ => ([fun v _ => v = .slice a9 j ca, fun v w => Row W.heap.size w v (commandB l) ∧ Below W.heap.size W w, fun v _ => v = .string (commandB l), fun v _ => v = .agg #[.int .i64 5, .string ⟨#[]⟩, .int .i64 0, .float .f64 0, .bool false, .slice a3 j c3], fun v _ => v = .string (commandB l), fun v _ => v = .bool true, fun v _ => v = .bool true] : List (Value → World → Prop)).getD kG_ (fun _ _ => True)) (eats []) (isIn [6]) (by kernel_rfl) (by kernel_rfl) (by kernel_rfl) ((Below.refl _ _).drew) ((Below.refl _ _).drew) ?_ ?_ ?_ ?_
        · intro i kG_ u w w' hne hE hg hr
          rcases kG_ with _ | _ | _ | _ | _ | _ | _ | kG_
          · exact hg
          · replace hg : (fun (v : Value) (w : World) => Row W.heap.size w v (commandB l) ∧ Below W.heap.size W w) u w := hg
            show (fun (v : Value) (w : World) => Row W.heap.size w v (commandB l) ∧ Below W.heap.size W w) u w'
            dsimp only at hg ⊢
            replace hE : exB _ _ i 1 = false := hE
            replace hne : 1 ≠ i := hne
            unfold wcR at hr
            split at hr
            all_goals first
              | exact absurd rfl hne
              | exact absurd (hE.symm.trans (by decide +kernel : exB _ _ _ _ = true)) (by decide)
              | (subst hr; exact hg)
              | ((obtain ⟨g1, g2⟩ := hg; exact ⟨g1.below hr (Nat.le_refl _), g2.trans (hr.mono g2.size)⟩))
          · exact hg
          · exact hg
          · exact hg
          · exact hg
          · exact hg
          · trivial
        · intro i w w' hF hI hr
          unfold wcR at hr
          split at hr
          · exact hI.trans (hr.mono hI.size)
          · exact hI.trans (hr.mono hI.size)
          · subst hr; exact hI
        · refine ⟨?_, ?_, ?_, ?_, ?_, ?_, ?_, trivial⟩
          · refine VC.plain rfl fun a wx hf => ?_
            have s0 := hf.old 0 (by first | rfl | kernel_rfl)
            have q0 := evalQ s0
            exact gives_value (by simp [go_sem, q0]) ⟨hf.c, rfl, rfl⟩
          · refine VC.plain rfl fun a wx hf => ?_
            obtain ⟨v29, g29, s29⟩ := hf.got 0 (by kernel_rfl) (by intro j hj; simp [eats] at hj) rfl rfl
            replace s29 := s29.trans (show v29 = .slice a9 j ca from g29)
            clear g29
            have q29 := evalQ s29
            have hI := hf.start (by kernel_rfl)
            exact gives_call (f := 21) (args := #[.slice a9 j ca]) (by simp [go_sem, q29]) (hcmd wx hI)
          · refine VC.plain rfl fun a wx hf => ?_
            obtain ⟨v30, g30, s30⟩ := hf.got 1 (by kernel_rfl) (by intro j hj; simp [eats] at hj) rfl rfl
            have q30 := evalQ s30
            replace g30 : (fun (v : Value) (w : World) => Row W.heap.size w v (commandB l) ∧ Below W.heap.size W w) v30 wx := g30
            dsimp only at g30
            have hI := hf.start (by kernel_rfl)
            exact gives_value (by simp [go_sem, q30, g30.1.back hpos]) ⟨hf.c, rfl, rfl⟩
          · refine VC.plain rfl fun a wx hf => ?_
            have s3 := hf.old 3 (by first | rfl | kernel_rfl)
            have q3 := evalQ s3
            have hI := hf.start (by kernel_rfl)
            exact gives_load_mid rfl s3 (range_below hI hr) Tryz.underlying26 rfl infoVal ⟨hf.c, rfl, rfl⟩
          · refine VC.plain rfl fun a wx hf => ?_
            obtain ⟨v32, g32, s32⟩ := hf.got 3 (by kernel_rfl) (by intro j hj; simp [eats] at hj) rfl rfl
            replace s32 := s32.trans (show v32 = .agg #[.int .i64 5, .string ⟨#[]⟩, .int .i64 0, .float .f64 0, .bool false, .slice a3 j c3] from g32)
            clear g32
            have q32 := evalQ s32
            have hI := hf.start (by kernel_rfl)
            exact gives_call (f := 22) (args := #[.agg #[.int .i64 5, .string ⟨#[]⟩, .int .i64 0, .float .f64 0, .bool false, .slice a3 j c3], .int .i64 3]) (by simp [go_sem, q32]) (hbyt wx hI)
          · refine VC.plain rfl fun a wx hf => ?_
            obtain ⟨v31, g31, s31⟩ := hf.got 2 (by kernel_rfl) (by intro j hj; simp [eats] at hj) rfl rfl
            replace s31 := s31.trans (show v31 = .string (commandB l) from g31)
            clear g31
            have q31 := evalQ s31
            obtain ⟨v33, g33, s33⟩ := hf.got 4 (by kernel_rfl) (by intro j hj; simp [eats] at hj) rfl rfl
            replace s33 := s33.trans (show v33 = .string (commandB l) from g33)
            clear g33
            have q33 := evalQ s33
            exact gives_value (by simp [go_sem, q31, q33]) ⟨hf.c, rfl, rfl⟩
          · refine VC.plain rfl fun a wx hf => ?_
            obtain ⟨v34, g34, s34⟩ := hf.got 5 (by kernel_rfl) (by intro j hj; simp [eats] at hj) rfl rfl
            replace s34 := s34.trans (show v34 = .bool true from g34)
            clear g34
            have q34 := evalQ s34
            have hI := hf.start (by kernel_rfl)
            exact gives_value (by simp [go_sem, q34]) ⟨hf.c, rfl, rfl⟩
        · intro vs w9 hb9 hG
          have n6 : vs 6 = .bool true := hG 6 (by decide) (by decide)
          have hbf := hb.trans (hb9.mono hbW)
          clear hcmd hbyt hr hG
          simp only [putFrom, Act.put, List.setIfInBounds_toArray, List.set_cons_zero, List.set_cons_succ]
          go_wp2
          go_ret
          exact ⟨by rw [← n6]; rfl, hbf⟩
end Go.Proofs.YtagkgfniihiinaaGreatDoor
