/- ItemCosts: its walk. -/
import Derived.Test.YteoalcmhdoopnaaDoorItPut
import Derived.Test.YteoalcmhdoopnaaDoorItChkL
namespace Go.Proofs.YteoalcmhdoopnaaDoor
open Go.RowKit

theorem itoa_dig (v : Int) : ∀ c ∈ Lib.itoa v, c.toNat = 45 ∨ dig c := by
  intro c hc
  unfold Lib.itoa at hc
  split at hc
  · rcases List.mem_cons.1 hc with rfl | h
    · exact Or.inl rfl
    · exact Or.inr (dec_dig _ c h)
  · exact Or.inr (dec_dig _ c hc)
theorem wP_x (t u : List UInt8) : wP (t ++ 120 :: u) = none := by
  cases h : wP (t ++ 120 :: u) with
  | none => rfl
  | some v =>
    have h1 := (wP_iff.1 h).2
    have h2 := itoa_dig v 120 (by rw [h1]; simp)
    have e : (120 : UInt8).toNat = 120 := rfl
    unfold dig at h2
    omega
theorem data_append (a b : ByteArray) : (a ++ b).data.toList = a.data.toList ++ b.data.toList := by rw [ByteArray.data_append]; simp
theorem cost_key (key : ByteArray) (k : Int) (t : ByteArray) (fs : List Fld) : costZ (key ++ ⟨#[120]⟩) k t fs = costZ key k t fs + 1 := by
  have h : (key ++ (⟨#[120]⟩ : ByteArray)).size = key.size + 1 := by rw [ByteArray.size_append]; rfl
  unfold costZ
  split <;> rw [h] <;> omega
theorem cost_one (key t : ByteArray) : costZ key 1 (t ++ ⟨#[120]⟩) [] = 48 + key.size + (t.size + 1) := by
  have h : (t ++ (⟨#[120]⟩ : ByteArray)).size = t.size + 1 := by rw [ByteArray.size_append]; rfl
  have h2 : wP (t ++ (⟨#[120]⟩ : ByteArray)).data.toList = none := by rw [data_append]; exact wP_x _ []
  unfold costZ; rw [h2, h]; rfl
theorem cost_two (key t : ByteArray) : costZ key 1 (t ++ ⟨#[120, 121]⟩) [] = 48 + key.size + (t.size + 2) := by
  have h : (t ++ (⟨#[120, 121]⟩ : ByteArray)).size = t.size + 2 := by rw [ByteArray.size_append]; rfl
  have h2 : wP (t ++ (⟨#[120, 121]⟩ : ByteArray)).data.toList = none := by rw [data_append]; exact wP_x _ [121]
  unfold costZ; rw [h2, h]; rfl
theorem costF_ins (fs : List Fld) (k : Nat) (f : Fld) : costF (ins fs k f) = costF fs + (16 + f.1.size + f.2.size) := by
  have h : costF fs = costF (fs.take k) + costF (fs.drop k) := by rw [← costF_append, List.take_append_drop]
  have h2 : costF (f :: fs.drop k) = (16 + f.1.size + f.2.size) + costF (fs.drop k) := by unfold costF; rw [List.map_cons, List.sum_cons]
  unfold ins
  rw [costF_append, h2, h]; omega
theorem costZ_le (key : ByteArray) (k : Int) (t : ByteArray) (fs : List Fld) (hk : key.size ≤ 1000000) (ht : t.size ≤ 1000000) (hn : fs.length ≤ 100000) (hm : ∀ f ∈ fs, modestF f) : costZ key k t fs ≤ 100000000000 := by
  have h1 := costF_le hm
  have h2 : fs.length * 200016 ≤ 100000 * 200016 := Nat.mul_le_mul_right _ hn
  unfold costZ
  split
  · split <;> omega
  · omega

set_option maxRecDepth 100000 in
set_option maxHeartbeats 12800000 in
theorem costsL_any (k : Int) (t : ByteArray) (a : Option Addr) (n cap : Nat) (fs : List Fld) (key : ByteArray) (f : Fld) (w : World) (hr : RF w a n cap fs) (hN : Nums w) :
    Calls Tryd.prog 4 #[.agg #[.int .i64 k, .string t, .slice a n cap], .string key, .agg #[.string f.1, .string f.2]] w fun e w' => e = .returned (.bool true) ∧ Below w.heap.size w w' := by
  obtain ⟨W1, hW1⟩ : ∃ W1, W1 = (w.alloc (.cells #[.int .i64 k, .string t, .slice a n cap] 24)).alloc (.cells #[.string f.1, .string f.2] 30) := ⟨_, rfl⟩
  have hb0 : Below w.heap.size w W1 := by rw [hW1]; exact ((Below.refl _ _).alloc (Nat.le_refl _) _).alloc (by simp) _
  have g0 : W1.cell? ⟨w.heap.size, 0, none⟩ = some (.int .i64 k) := by rw [hW1, World.cell?_alloc_past _ _ _ (by simp), World.cell?_alloc_new]; rfl
  have g1 : W1.cell? ⟨w.heap.size, 1, none⟩ = some (.string t) := by rw [hW1, World.cell?_alloc_past _ _ _ (by simp), World.cell?_alloc_new]; rfl
  have g2 : W1.cell? ⟨w.heap.size, 2, none⟩ = some (.slice a n cap) := by rw [hW1, World.cell?_alloc_past _ _ _ (by simp), World.cell?_alloc_new]; rfl
  have e1 : w.heap.size + 1 = (w.alloc (.cells #[.int .i64 k, .string t, .slice a n cap] 24)).heap.size := by simp
  have k0 : W1.cell? ⟨w.heap.size + 1, 0, none⟩ = some (.string f.1) := by rw [hW1, e1, World.cell?_alloc_new]; rfl
  have k1 : W1.cell? ⟨w.heap.size + 1, 1, none⟩ = some (.string f.2) := by rw [hW1, e1, World.cell?_alloc_new]; rfl
  have hr1 := hr.below hb0
  have hN1 := hN.below hb0
  have hl := hr.len
  replace hl := Lib.hid hl
  replace hW1 := Lib.hid hW1
  replace hr1 := Lib.hid hr1
  replace hN1 := Lib.hid hN1
  clear hr hN e1
  go_enter Tryd.func4, Tryd.ntmps4
  go_upto_region 1 with fail
  rw [← hW1.out]
  go_wp2_with fail
  refine (alive09_any W1 hN1.out).mono ?_
  rintro e w1 ⟨rfl, hb1⟩
  replace g0 := bcell hb1 g0
  replace g1 := bcell hb1 g1
  replace g2 := bcell hb1 g2
  replace k0 := bcell hb1 k0
  replace k1 := bcell hb1 k1
  go_wp2_with fail
  refine (great_any k t a n cap fs _ (hr1.out.below hb1)).mono ?_
  rintro e w2 ⟨g, rfl, hg, hb2⟩
  have hb12 := hb1.trans (hb2.mono hb1.size)
  have hbw2 := hb0.trans (hb12.mono hb0.size)
  replace g0 := bcell hb2 g0
  replace g1 := bcell hb2 g1
  replace g2 := bcell hb2 g2
  replace k0 := bcell hb2 k0
  replace k1 := bcell hb2 k1
  replace hg := Lib.hid hg
  cases g with
  | true =>
    go_wp2
    go_ret
    exact ⟨rfl, hbw2⟩
  | false =>
  obtain ⟨hn3, ht3, hm3⟩ := hg.out rfl
  clear hg
  replace hm3 := Lib.hid hm3
  have hn9 : n ≤ 100000000 := by omega
  have hn5 : n ≤ 100000 := by omega
  have ht6 : t.size ≤ 1000000 := by omega
  have hm6 : ∀ f ∈ fs, modestF f := fun f hf => by have := hm3.out f hf; unfold smallF at this; unfold modestF; omega
  replace hm6 := Lib.hid hm6
  obtain ⟨qr, hqr⟩ := bool_of (RightP k t fs)
  replace hqr := Lib.hid hqr
  go_wp2_with fail
  refine (qp_q (rright_any k t a n cap fs _ (hr1.out.below hb12) hn9) hqr.out).mono ?_
  rintro e w3 ⟨rfl, hb3⟩
  have hb13 := hb12.trans (hb3.mono hb12.size)
  have hbw3 := hb0.trans (hb13.mono hb0.size)
  replace g0 := bcell hb3 g0
  replace g1 := bcell hb3 g1
  replace g2 := bcell hb3 g2
  replace k0 := bcell hb3 k0
  replace k1 := bcell hb3 k1
  cases qr with
  | false =>
    go_wp2
    go_ret
    exact ⟨rfl, hbw3⟩
  | true =>
  by_cases hkey : 500 < key.size
  · have hkey' : (500 : Int) < key.size := by omega
    go_wp2
    go_ret
    exact ⟨rfl, hbw3⟩
  have hkey' : ¬ (500 : Int) < key.size := by omega
  by_cases hf1 : 500 < f.1.size
  · have hf1' : (500 : Int) < f.1.size := by omega
    go_wp2
    go_ret
    exact ⟨rfl, hbw3⟩
  have hf1' : ¬ (500 : Int) < f.1.size := by omega
  by_cases hf2 : 4000 < f.2.size
  · have hf2' : (4000 : Int) < f.2.size := by omega
    go_wp2
    go_ret
    exact ⟨rfl, hbw3⟩
  have hf2' : ¬ (4000 : Int) < f.2.size := by omega
  have hk6 : key.size ≤ 1000000 := by omega
  have hkx : (key ++ (⟨#[120]⟩ : ByteArray)).size ≤ 1000000 := by rw [ByteArray.size_append, show (⟨#[120]⟩ : ByteArray).size = 1 from rfl]; omega
  obtain ⟨c, hc⟩ : ∃ c, c = costZ key k t fs := ⟨_, rfl⟩
  have hcb : c ≤ 100000000000 := by rw [hc]; exact costZ_le key k t fs hk6 ht6 (by rw [hl.out]; exact hn5) hm6.out
  have hr3 := hr1.out.below hb13
  have hN3 := hN1.out.below hb13
  have hA : ∀ W, Below w3.heap.size w3 W → Calls Tryd.prog 15 #[.string (key ++ ⟨#[120]⟩), .agg #[.int .i64 k, .string t, .slice a n cap]] W fun e w' => e = .returned (.int .i64 ((c : Int) + 1)) ∧ Below W.heap.size W w' := fun W hb => by
    have h := cost_any (key ++ ⟨#[120]⟩) k t a n cap fs W (hr3.below hb) hn5 hkx ht6 hm6.out (hN3.below hb)
    rw [cost_key, ← hc] at h
    exact h
  have hB : ∀ W, Below w3.heap.size w3 W → Calls Tryd.prog 15 #[.string key, .agg #[.int .i64 k, .string t, .slice a n cap]] W fun e w' => e = .returned (.int .i64 (c : Int)) ∧ Below W.heap.size W w' := fun W hb => by
    rw [hc]
    exact cost_any key k t a n cap fs W (hr3.below hb) hn5 hk6 ht6 hm6.out (hN3.below hb)
  have hw1 : IntKind.i64.wrap ((c : Int) + 1) = (c : Int) + 1 := IntWalk.i64_in _ (by omega)
  have hbe : ((c : Int) + 1 != (c : Int) + 1) = false := by simp
  replace hr3 := Lib.hid hr3
  replace hN3 := Lib.hid hN3
  replace hA := Lib.hid hA
  replace hB := Lib.hid hB
  replace hc := Lib.hid hc
  have z1 : w.heap.size < w3.heap.size := World.block_lt_of_cell? _ _ g0
  have z2 : w.heap.size + 1 < w3.heap.size := World.block_lt_of_cell? _ _ k0
  go_upto_region 5 with fail
  refine wp_region_grow (by kernel_rfl) (by kernel_rfl) ?_
  repeat (go_big_quiet_step ((first
    | (go_at_call 15; (with_reducible exact quiet_grow (hA.out _ (grow_below _ _))))
    | (go_at_call 15; (with_reducible exact quiet_grow (hB.out _ (grow_below _ _)))))))
  refine wpQuiet_nil ?_
  rintro _ ⟨xq, rfl⟩
  have hb34 := grow_below w3 xq
  generalize grow w3 xq = w4 at *
  have hbw4 := hbw3.trans (hb34.mono hbw3.size)
  replace g0 := bcell hb34 g0
  replace g1 := bcell hb34 g1
  replace g2 := bcell hb34 g2
  replace k0 := bcell hb34 k0
  replace k1 := bcell hb34 k1
  clear hw1 hbe z1 z2 hA
  go_upto_region 7 with fail
  have hr4 := hr3.out.below hb34
  have hN4 := hN3.out.below hb34
  rcases hqr.out.1 (by trivial) with ⟨hk1, _, _⟩ | ⟨hk2, htx, h1n, h2n, hfine, hsrt⟩
  · have hkb : (k == 1) = true := by simpa using hk1
    replace hk1 := Lib.hid hk1
    replace hr4 := Lib.hid hr4
    replace hN4 := Lib.hid hN4
    by_cases h4 : 4090 < t.size
    · have h4' : (4090 : Int) < t.size := by omega
      have z1 : w.heap.size < w4.heap.size := World.block_lt_of_cell? _ _ g0
      go_upto_region 8 with fail
      refine wp_region_grow (by kernel_rfl) (by kernel_rfl) ?_
      repeat (go_big_quiet_step (fail))
      refine wpQuiet_nil ?_
      rintro _ ⟨xq, rfl⟩
      have hbq := hbw4.trans ((grow_below _ xq).mono hbw4.size)
      clear g0 g1 g2 k0 k1
      go_wp2
      go_ret
      exact ⟨by first | rfl | simp, hbq⟩
    · have h4' : ¬ (4090 : Int) < t.size := by omega
      obtain ⟨d, hd⟩ : ∃ d, d = 48 + key.size + (t.size + 1) := ⟨_, rfl⟩
      have hC : ∀ W, Below w4.heap.size w4 W → Calls Tryd.prog 15 #[.string key, .agg #[.int .i64 1, .string (t ++ ⟨#[120, 121]⟩), .slice none 0 0]] W fun e w' => e = .returned (.int .i64 ((d : Int) + 1)) ∧ Below W.heap.size W w' := fun W hb => by
        have h := cost_any key 1 (t ++ ⟨#[120, 121]⟩) none 0 0 [] W (Reads.nil _ _ _ _) (by omega) hk6 (by rw [ByteArray.size_append, show (⟨#[120, 121]⟩ : ByteArray).size = 2 from rfl]; omega) (by simp) (hN4.out.below hb)
        rw [cost_two, show 48 + key.size + (t.size + 2) = d + 1 by omega] at h
        exact h
      have hD : ∀ W, Below w4.heap.size w4 W → Calls Tryd.prog 15 #[.string key, .agg #[.int .i64 1, .string (t ++ ⟨#[120]⟩), .slice none 0 0]] W fun e w' => e = .returned (.int .i64 (d : Int)) ∧ Below W.heap.size W w' := fun W hb => by
        have h := cost_any key 1 (t ++ ⟨#[120]⟩) none 0 0 [] W (Reads.nil _ _ _ _) (by omega) hk6 (by rw [ByteArray.size_append, show (⟨#[120]⟩ : ByteArray).size = 1 from rfl]; omega) (by simp) (hN4.out.below hb)
        rw [cost_one, ← hd] at h
        exact h
      have hw1 : IntKind.i64.wrap ((d : Int) + 1) = (d : Int) + 1 := IntWalk.i64_in _ (by omega)
      replace hC := Lib.hid hC
      replace hD := Lib.hid hD
      replace hd := Lib.hid hd
      have z1 : w.heap.size < w4.heap.size := World.block_lt_of_cell? _ _ g0
      go_upto_region 8 with fail
      refine wp_region_grow (by kernel_rfl) (by kernel_rfl) ?_
      repeat (go_big_quiet_step ((first
        | (go_at_call 15; (with_reducible exact quiet_grow (hC.out _ (grow_below _ _))))
        | (go_at_call 15; (with_reducible exact quiet_grow (hD.out _ (grow_below _ _)))))))
      refine wpQuiet_nil ?_
      rintro _ ⟨xq, rfl⟩
      have hbq := hbw4.trans ((grow_below _ xq).mono hbw4.size)
      clear g0 g1 g2 k0 k1 hw1
      go_wp2
      go_ret
      exact ⟨by first | rfl | simp, hbq⟩
  · have hkn : k ≠ 1 := by omega
    have hkb : (k == 1) = false := by simpa using hkn
    have hget := iget_any k t a n cap fs f.1 w4 hkn hr4 hsrt hn5
    obtain ⟨H, hH⟩ : ∃ H, H = hasF fs f.1 := ⟨_, rfl⟩
    obtain ⟨T, hT⟩ : ∃ T, T = (getF fs f.1).getD ⟨#[]⟩ := ⟨_, rfl⟩
    rw [← hH, ← hT] at hget
    replace hget := Lib.hid hget
    replace hT := Lib.hid hT
    replace hH := Lib.hid hH
    replace hsrt := Lib.hid hsrt
    replace hfine := Lib.hid hfine
    replace htx := Lib.hid htx
    replace hr4 := Lib.hid hr4
    replace hN4 := Lib.hid hN4
    replace hk2 := Lib.hid hk2
    rw [hl.out] at h1n h2n
    go_wp2_with fail
    refine hget.out.mono ?_
    rintro e w5 ⟨rfl, hb5⟩
    replace g0 := bcell hb5 g0
    replace g1 := bcell hb5 g1
    replace g2 := bcell hb5 g2
    replace k0 := bcell hb5 k0
    replace k1 := bcell hb5 k1
    have hr5 := hr4.out.below hb5
    have hbw5 := hbw4.trans (hb5.mono hbw4.size)
    replace hr5 := Lib.hid hr5
    by_cases hbig : TooBig fs f.1 f.2
    · replace hbig := Lib.hid hbig
      go_wp2_with fail
      refine (iput_big k t a n cap fs f.1 f.2 _ hkn hr5.out hsrt.out hn5 hbig.out).mono ?_
      rintro e w6 ⟨a6, c6, rfl, -, hb6⟩
      have hbw6 := hbw5.trans (hb6.mono hbw5.size)
      have hbw7 := hbw6.alloc hbw6.size (.cells #[.int .i64 k, .string t, .slice a6 n c6] 24)
      replace hbw7 := Lib.hid hbw7
      clear g0 g1 g2 k0 k1
      cases H <;> (go_wp2; go_ret; exact ⟨rfl, hbw7.out⟩)
    · have hfin : fineF (f.1, f.2) := by
        by_cases h : fineF (f.1, f.2)
        · exact h
        · exact absurd (Or.inl h) hbig
      have hroom : hasF fs f.1 = true ∨ n < 256 := by
        cases hh : hasF fs f.1 with
        | true => exact Or.inl rfl
        | false =>
          right
          rcases Nat.lt_or_ge n 256 with h | h
          · exact h
          · exact absurd (Or.inr ⟨hh, by rw [hl.out]; exact h⟩) hbig
      have hput := iput_in k t a n cap fs f.1 f.2 w5 hkn hr5.out hsrt.out (by omega) hfin hroom
      rw [← hH.out] at hput
      replace hput := Lib.hid hput
      clear hbig
      go_wp2_with fail
      refine hput.out.mono ?_
      rintro e w6 ⟨a6, n6, c6, rfl, hown, hb6⟩
      replace g0 := bcell hb6 g0
      replace g1 := bcell hb6 g1
      replace g2 := bcell hb6 g2
      replace k0 := bcell hb6 k0
      replace k1 := bcell hb6 k1
      have hbw6 := hbw5.trans (hb6.mono hbw5.size)
      obtain ⟨W7, hW7⟩ : ∃ W7, W7 = w6.alloc (.cells #[.int .i64 2, .string ⟨#[]⟩, .slice a6 n6 c6] 24) := ⟨_, rfl⟩
      have hb67 : Below w6.heap.size w6 W7 := by rw [hW7]; exact (Below.refl _ _).alloc (Nat.le_refl _) _
      have hbw7 := hbw6.trans (hb67.mono hbw6.size)
      have m0 : W7.cell? ⟨w6.heap.size, 0, none⟩ = some (.int .i64 2) := by rw [hW7, World.cell?_alloc_new]; rfl
      have m1 : W7.cell? ⟨w6.heap.size, 1, none⟩ = some (.string ⟨#[]⟩) := by rw [hW7, World.cell?_alloc_new]; rfl
      have m2 : W7.cell? ⟨w6.heap.size, 2, none⟩ = some (.slice a6 n6 c6) := by rw [hW7, World.cell?_alloc_new]; rfl
      go_upto_region 11 with fail
      rw [← hW7]
      replace hW7 := Lib.hid hW7
      replace g0 := bcell hb67 g0
      replace g1 := bcell hb67 g1
      replace g2 := bcell hb67 g2
      replace k0 := bcell hb67 k0
      replace k1 := bcell hb67 k1
      cases hHv : H with
      | true =>
        subst hHv
        clear g0 g1 g2 k0 k1 m0 m1 m2
        go_wp2
        go_ret
        exact ⟨rfl, hbw7⟩
      | false =>
        subst hHv
        have hrf6 := (RF.of_owns hown).below hb67
        have hlen6 := hrf6.len
        have hpf := put_new f.2 hH.out.symm
        rw [hpf] at hrf6 hlen6
        have hle := lbF_le fs f.1
        rw [ins_len _ hle, hl.out] at hlen6
        have hm9 : ∀ g ∈ ins fs (lbF fs f.1) (f.1, f.2), modestF g := fun g hg => by
          unfold ins at hg
          rcases List.mem_append.1 hg with h | h
          · exact hm6.out g (List.mem_of_mem_take h)
          · rcases List.mem_cons.1 h with rfl | h
            · unfold modestF; exact ⟨by show f.1.size ≤ _; omega, by show f.2.size ≤ _; omega⟩
            · exact hm6.out g (List.mem_of_mem_drop h)
        have hr7 := hr5.out.below (hb6.trans (hb67.mono hb6.size))
        have hN7 := hN4.out.below (hb5.trans ((hb6.trans (hb67.mono hb6.size)).mono hb5.size))
        obtain ⟨d, hd⟩ : ∃ d, d = c + (16 + f.1.size + f.2.size) := ⟨_, rfl⟩
        have hC : ∀ W, Below W7.heap.size W7 W → Calls Tryd.prog 15 #[.string key, .agg #[.int .i64 2, .string ⟨#[]⟩, .slice a6 n6 c6]] W fun e w' => e = .returned (.int .i64 (d : Int)) ∧ Below W.heap.size W w' := fun W hb => by
          have h := cost_any key 2 ⟨#[]⟩ a6 n6 c6 _ W (hrf6.below hb) (by omega) hk6 (by decide) hm9 (hN7.below hb)
          have e : costZ key 2 ⟨#[]⟩ (ins fs (lbF fs f.1) (f.1, f.2)) = d := by
            have h1 : costZ key 2 ⟨#[]⟩ (ins fs (lbF fs f.1) (f.1, f.2)) = 48 + key.size + costF (ins fs (lbF fs f.1) (f.1, f.2)) := by unfold costZ; rw [if_neg (by decide)]
            have h2 : c = 48 + key.size + costF fs := by rw [hc.out]; unfold costZ; rw [if_neg hkn]
            rw [h1, costF_ins, hd, h2]
            show 48 + key.size + (costF fs + (16 + f.1.size + f.2.size)) = _
            omega
          rw [e] at h
          exact h
        have hD : ∀ W, Below W7.heap.size W7 W → Calls Tryd.prog 15 #[.string key, .agg #[.int .i64 k, .string t, .slice a n cap]] W fun e w' => e = .returned (.int .i64 (c : Int)) ∧ Below W.heap.size W w' := fun W hb => by
          rw [hc.out]
          exact cost_any key k t a n cap fs W (hr7.below hb) hn5 hk6 ht6 hm6.out (hN7.below hb)
        have hw1 : IntKind.i64.wrap (16 + (f.1.size : Int)) = 16 + (f.1.size : Int) := IntWalk.i64_in _ (by omega)
        have hw2 : IntKind.i64.wrap (16 + (f.1.size : Int) + (f.2.size : Int)) = 16 + (f.1.size : Int) + (f.2.size : Int) := IntWalk.i64_in _ (by omega)
        have hw3 : IntKind.i64.wrap ((c : Int) + (16 + (f.1.size : Int) + (f.2.size : Int))) = (d : Int) := by rw [IntWalk.i64_in _ (by omega)]; omega
        replace hC := Lib.hid hC
        replace hD := Lib.hid hD
        replace hd := Lib.hid hd
        clear hlen6 hpf hle hm9 hr7 hN7 hrf6 hown
        have z1 : w.heap.size < W7.heap.size := World.block_lt_of_cell? _ _ g0
        have z2 : w.heap.size + 1 < W7.heap.size := World.block_lt_of_cell? _ _ k0
        have z3 : w6.heap.size < W7.heap.size := World.block_lt_of_cell? _ _ m0
        go_upto_region 13 with fail
        refine wp_region_grow (by kernel_rfl) (by kernel_rfl) ?_
        repeat (go_big_quiet_step ((first
          | (go_at_call 15; (with_reducible exact quiet_grow (hC.out _ (grow_below _ _))))
          | (go_at_call 15; (with_reducible exact quiet_grow (hD.out _ (grow_below _ _)))))))
        refine wpQuiet_nil ?_
        rintro _ ⟨xq, rfl⟩
        have hbq := hbw7.trans ((grow_below _ xq).mono hbw7.size)
        clear g0 g1 g2 k0 k1 m0 m1 m2 hw1 hw2 hw3
        go_wp2
        go_ret
        exact ⟨by first | rfl | simp, hbq⟩
end Go.Proofs.YteoalcmhdoopnaaDoor
