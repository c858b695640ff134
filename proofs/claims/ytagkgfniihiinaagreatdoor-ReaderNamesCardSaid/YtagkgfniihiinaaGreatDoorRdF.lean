/- The reader: a value, at every text. -/
import Derived.Test.YtagkgfniihiinaaGreatDoorRdE
namespace Go.Proofs.YtagkgfniihiinaaGreatDoor
open Go.RowKit

theorem scanN_many {f : Nat → List UInt8 → Out (V × Nat × Nat)} (hf : ∀ (m : Nat) (L : List UInt8) (v : V) (u m' : Nat), m ≤ 1000 → f m L = .got (v, u, m') → m' ≤ 1000) : ∀ (n m : Nat) (L : List UInt8) (l : List V) (u m' : Nat), m ≤ 1000 → scanN f n m L = .got (l, u, m') → m' ≤ 1000
  | 0, m, L, l, u, m', hm, h => by
    rw [scanN] at h
    simp only [Out.got.injEq, Prod.mk.injEq] at h
    omega
  | n + 1, m, L, l, u, m', hm, h => by
    rw [scanN] at h
    cases h1 : f m L with
    | stop q => rw [h1] at h; cases h
    | got r =>
      obtain ⟨v, u1, m1⟩ := r
      rw [h1] at h
      dsimp only at h
      have hm1 := hf m L v u1 m1 hm h1
      cases h2 : scanN f n m1 (L.drop u1) with
      | stop q => rw [h2] at h; cases h
      | got r =>
        obtain ⟨l2, u2, m2⟩ := r
        rw [h2] at h
        simp only [Out.got.injEq, Prod.mk.injEq] at h
        have := scanN_many hf n m1 _ l2 u2 m2 hm1 h2
        omega
theorem scanV_many {rp : Rp} : ∀ (lv : Nat) (m : Nat) (L : List UInt8) (v : V) (u m' : Nat), m ≤ 1000 → scanV rp lv m L = .got (v, u, m') → m' ≤ 1000
  | 0, m, L, v, u, m', hm, h => by
    rw [scanV] at h
    split at h
    · cases h
    · simp only [Out.got.injEq, Prod.mk.injEq] at h; omega
    · cases h
  | lv + 1, m, L, v, u, m', hm, h => by
    rw [scanV] at h
    split at h
    · cases h
    · simp only [Out.got.injEq, Prod.mk.injEq] at h; omega
    · rename_i kd n u0 _
      split at h
      · cases h
      · rename_i hb
        cases h2 : scanN (scanV rp lv) n (m + n) (L.drop u0) with
        | stop q => rw [h2] at h; cases h
        | got r =>
          obtain ⟨l2, u2, m2⟩ := r
          rw [h2] at h
          simp only [Out.got.injEq, Prod.mk.injEq] at h
          have := scanN_many (scanV_many lv) n (m + n) _ l2 u2 m2 (by omega) h2
          omega
/-- A value, whose lists are known. -/
theorem value_head {rp : Rp} {w0 w : World} {g b o n cap at_ many : Nat} {s : ByteArray} {d : Int} (h : RS rp w0 w g b o n cap s at_ many) (hbw : b < w.heap.size) (out : Out (V × Nat × Nat)) (hnd : needH rp (s.data.toList.drop at_))
    (ho : match headS rp (s.data.toList.drop at_) with
      | .stop e => out = .stop e
      | .leaf v u => out = .got (v, u, many)
      | .list kd N u => ∃ res : Out (List V × Nat × Nat), (∀ W, RS rp w0 W g b o n cap s (at_ + u) many → Calls Tryz.prog 70 #[.pointer (some ⟨g, 0, none⟩), .int .i64 (kd : Int), .int .i64 (N : Int), .int .i64 d] W (ListQ rp w0 g b o n cap s (kd : Int) (at_ + u) res W)) ∧
          out = (match res with | .stop q => .stop q | .got (l, u2, m2) => .got (.mk (kd : Int) ⟨#[]⟩ 0 0 false l, u + u2, m2))) :
    Calls Tryz.prog 46 #[.pointer (some ⟨g, 0, none⟩), .int .i64 d] w (ValQ rp w0 g b o n cap s at_ out w) := by
  cases hL : s.data.toList.drop at_ with
  | nil =>
    rw [hL] at ho
    simp only [headS] at ho
    subst ho
    have he : at_ = n := by
      have := h.le
      have hz := h.scan.size
      have h1 : (s.data.toList.drop at_).length = 0 := by rw [hL]; rfl
      rw [List.length_drop, ← size_r] at h1
      omega
    exact value_end h he
  | cons c L =>
    rw [hL] at ho
    simp only [headS] at ho
    by_cases hk0 : kindR c = 0
    · rw [if_pos hk0] at ho
      subst ho
      exact value_mark h hL hk0
    rw [if_neg hk0] at ho
    cases hl : lineS L with
    | stop q =>
      rw [hl] at ho
      simp only at ho
      subst ho
      exact value_line h hL hk0 hl
    | got r =>
      obtain ⟨t, u⟩ := r
      rw [hl] at ho
      simp only at ho
      by_cases hnil : t = [45, 49] ∧ (kindR c = 4 ∨ kindR c = 5)
      · rw [if_pos hnil] at ho
        simp only at ho
        subst ho
        exact value_nil h hL hnil.2 (by rw [hl, hnil.1])
      rw [if_neg hnil] at ho
      by_cases hk1 : kindR c = 4 ∨ kindR c = 10 ∨ kindR c = 11
      · rw [if_pos hk1] at ho
        cases hm : numS t 4096 with
        | none =>
          rw [hm] at ho
          simp only at ho
          subst ho
          exact value_num h hL (.inl ⟨rfl, hk1⟩) hl hnil hm
        | some len =>
          rw [hm] at ho
          simp only at ho
          cases hlo : longS (L.drop u) len with
          | stop q =>
            rw [hlo] at ho
            simp only at ho
            subst ho
            exact value_lstop h hL hk1 hl hnil hm hlo
          | got x =>
            rw [hlo] at ho
            simp only at ho
            by_cases ok : okV (leafV (kindR c) ⟨x.toArray⟩ 0 0 false) = true
            · rw [if_pos ok] at ho
              simp only at ho
              subst ho
              exact value_ltext h hL hk1 hl hnil hm hlo ok
            · rw [if_neg ok] at ho
              simp only at ho
              subst ho
              exact value_lbad h hL hk1 hl hnil hm hlo ok
      rw [if_neg hk1] at ho
      by_cases hk2 : kindR c = 5 ∨ kindR c = 13 ∨ kindR c = 14
      · rw [if_pos hk2] at ho
        cases hm : numS t 1000 with
        | none =>
          rw [hm] at ho
          simp only at ho
          subst ho
          exact value_num h hL (.inr ⟨rfl, by omega⟩) hl hnil hm
        | some len =>
          rw [hm] at ho
          simp only at ho
          obtain ⟨res, hcall, rfl⟩ := ho
          have hkk : (kindR c = 5 ∧ len = len) ∨ (kindR c = 13 ∧ len = len) ∨ (kindR c = 14 ∧ len = len) ∨ (kindR c = 12 ∧ len = 2 * len) := by
            rcases hk2 with e | e | e
            · exact .inl ⟨e, rfl⟩
            · exact .inr (.inl ⟨e, rfl⟩)
            · exact .inr (.inr (.inl ⟨e, rfl⟩))
          rw [show at_ + (1 + u) = at_ + 1 + u by omega] at hcall
          cases res with
          | stop q => exact value_liststop h hL hkk hl hnil hm hcall
          | got r =>
            obtain ⟨l, u2, m2⟩ := r
            exact value_listgot h hL hkk hl hnil hm hbw hcall
      rw [if_neg hk2] at ho
      by_cases hk3 : kindR c = 12
      · rw [if_pos hk3] at ho
        cases hm : numS t 1000 with
        | none =>
          rw [hm] at ho
          simp only at ho
          subst ho
          exact value_num h hL (.inr ⟨rfl, by omega⟩) hl hnil hm
        | some len =>
          rw [hm] at ho
          simp only at ho
          obtain ⟨res, hcall, rfl⟩ := ho
          have e12 : (12 : Nat) = kindR c := hk3.symm
          rw [e12] at hcall ⊢
          rw [show at_ + (1 + u) = at_ + 1 + u by omega] at hcall
          cases res with
          | stop q => exact value_liststop h hL (.inr (.inr (.inr ⟨hk3, rfl⟩))) hl hnil hm hcall
          | got r =>
            obtain ⟨l, u2, m2⟩ := r
            exact value_listgot h hL (.inr (.inr (.inr ⟨hk3, rfl⟩))) hl hnil hm hbw hcall
      rw [if_neg hk3] at ho
      have hk4 : kindR c = 1 ∨ kindR c = 2 ∨ kindR c = 9 ∨ kindR c = 3 ∨ kindR c = 7 ∨ kindR c = 8 ∨ kindR c = 6 := by
        have := kindR_le c
        omega
      cases hs : shortO (rp t) (kindR c) ⟨t.toArray⟩ with
      | none =>
        rw [hs] at ho
        simp only at ho
        subst ho
        exact value_snone h hL hk4 hl (hnd c L t u hL · hl) hs
      | some v =>
        rw [hs] at ho
        simp only at ho
        by_cases ok : okV v = true
        · rw [if_pos ok] at ho
          simp only at ho
          subst ho
          exact value_short h hL hk4 hl (hnd c L t u hL · hl) hs ok
        · rw [if_neg ok] at ho
          simp only at ho
          subst ho
          exact value_sbad h hL hk4 hl (hnd c L t u hL · hl) hs ok
theorem headS_len {rp : Rp} {L : List UInt8} {kd N u : Nat} (h : headS rp L = .list kd N u) : N ≤ 100000 := by
  unfold headS at h
  split at h
  · cases h
  split at h
  · cases h
  split at h
  · cases h
  split at h
  · cases h
  split at h
  · split at h
    · cases h
    · split at h
      · cases h
      · split at h <;> cases h
  split at h
  · split at h
    · cases h
    · rename_i hn
      have := numS_le hn
      simp only [Head.list.injEq] at h
      omega
  split at h
  · split at h
    · cases h
    · rename_i hn
      have := numS_le hn
      simp only [Head.list.injEq] at h
      omega
  split at h
  · cases h
  · split at h <;> cases h
/-- A value at its level. -/
theorem value_any {rp : Rp} {w0 : World} {g b o n cap : Nat} {s : ByteArray} (hbw0 : b < w0.heap.size) : ∀ (lv : Nat), lv ≤ 8 → ∀ (w : World) (at_ many : Nat), RS rp w0 w g b o n cap s at_ many → many ≤ 1000 → needV rp lv many (s.data.toList.drop at_) →
    Calls Tryz.prog 46 #[.pointer (some ⟨g, 0, none⟩), .int .i64 (8 - (lv : Int))] w (ValQ rp w0 g b o n cap s at_ (scanV rp lv many (s.data.toList.drop at_)) w) := by
  intro lv
  induction lv with
  | zero =>
    intro _ w at_ many h hm hnd
    have hbw : b < w.heap.size := Nat.lt_of_lt_of_le hbw0 h.below.size
    refine value_head h hbw _ (needV_head hnd) ?_
    rw [scanV]
    cases hh : headS rp (s.data.toList.drop at_) with
    | stop e => rfl
    | leaf v u => rfl
    | list kd N u =>
      refine ⟨.stop 51, fun W hW => ?_, rfl⟩
      exact list_no hW (by omega) (headS_len hh) (.inr (.inl (by omega)))
  | succ lv ih =>
    intro hlv w at_ many h hm hnd
    have hbw : b < w.heap.size := Nat.lt_of_lt_of_le hbw0 h.below.size
    refine value_head h hbw _ (needV_head hnd) ?_
    rw [scanV]
    cases hh : headS rp (s.data.toList.drop at_) with
    | stop e => rfl
    | leaf v u => rfl
    | list kd N u =>
      dsimp only
      by_cases hbad : 1000 < many + N ∨ (kd = 14 ∧ (N = 0 ∨ lv < 7))
      · rw [if_pos hbad]
        refine ⟨.stop 51, fun W hW => ?_, rfl⟩
        exact list_no hW (by omega) (headS_len hh) (by
          rcases hbad with e | e
          · exact .inl e
          · exact .inr (.inr ⟨by omega, by omega⟩))
      · rw [if_neg hbad]
        refine ⟨scanN (scanV rp lv) N (many + N) (s.data.toList.drop (at_ + u)), fun W hW => ?_, ?_⟩
        · have hbW : b < W.heap.size := Nat.lt_of_lt_of_le hbw0 hW.below.size
          refine R2.R3.list_any hW hbW (by omega) (by omega) (by omega) (by omega) (need := needV rp lv) (fun X at2 m2 hX hm2 hn2 => ?_) (scanV_many lv) (by rw [← List.drop_drop]; exact hnd.2 kd N u hh)
          have := ih (by omega) X at2 m2 hX hm2 hn2
          rw [show (8 : Int) - ((lv + 1 : Nat) : Int) + 1 = 8 - (lv : Int) by omega]
          exact this
        · rw [List.drop_drop]
          cases scanN (scanV rp lv) N (many + N) (s.data.toList.drop (at_ + u)) with
          | stop q => rfl
          | got r => obtain ⟨l, u2, m2⟩ := r; rfl
end Go.Proofs.YtagkgfniihiinaaGreatDoor
