/- RecentRuns: its walk. -/
import Derived.Test.YtlddjcfbapdjnaaLaw10
namespace Go.Proofs.Ytlddjcfbapdjnaa
open Go.RowKit

/-- What an act of layer 10 holds, cell by cell. -/
def actCells (acts : List (Int × ByteArray)) : List Value := acts.flatMap fun p => [.int .i64 p.1, .string p.2]
theorem actCells_len (acts : List (Int × ByteArray)) : (actCells acts).length = acts.length * 2 := by
  induction acts with
  | nil => rfl
  | cons p t ih => simp only [actCells, List.flatMap_cons, List.length_append, List.length_cons, List.length_nil] at ih ⊢; omega
theorem actCells_at {acts : List (Int × ByteArray)} {k : Nat} (h : k < acts.length) : (actCells acts)[k * 2]? = some (.int .i64 acts[k].1) ∧ (actCells acts)[k * 2 + 1]? = some (.string acts[k].2) := by
  induction acts generalizing k with
  | nil => simp at h
  | cons p t ih =>
    cases k with
    | zero => exact ⟨rfl, rfl⟩
    | succ k =>
      have h1 : k < t.length := by simpa using h
      have := ih h1
      rw [show (k + 1) * 2 = k * 2 + 2 by omega]
      exact this

def apply10 (ks : List ByteArray) (p : Int × ByteArray) : List ByteArray :=
  if p.1 = 0 then touch ks p.2 else if p.1 = 2 then [] else ks.filter (fun x => x ≠ p.2)
theorem touch_len (ks : List ByteArray) (k : ByteArray) : (touch ks k).length ≤ ks.length + 1 := by
  simp only [touch, List.length_append, List.length_cons, List.length_nil]
  have := List.length_filter_le (fun x : ByteArray => decide (x ≠ k)) ks
  omega

set_option maxRecDepth 100000 in
set_option maxHeartbeats 4000000 in
theorem runs_any {w : World} {a : Option Addr} {n ca : Nat} {acts : List (Int × ByteArray)} (hx : Reads w 2 (.slice a n ca) n (actCells acts)) (but : ByteArray) :
    Calls Try.prog 3 #[.slice a n ca, .string but] w fun e w' => e = .returned (.bool true) ∧ Below w.heap.size w w' := by
  have lx := hx.len.2
  rw [actCells_len] at lx
  by_cases hbig : 100 < n
  · clear lx hx
    go_enter Try.func3, Try.ntmps3
    go_wp2_with fail
    refine (alive10_any w).mono ?_
    rintro e w1 ⟨rfl, hb1⟩
    go_wp2
    go_ret
    exact ⟨rfl, hb1⟩
  · go_enter Try.func3, Try.ntmps3
    go_wp2_with fail
    refine (alive10_any w).mono ?_
    rintro e w1 ⟨rfl, hb1⟩
    go_wp2_with fail
    refine (new_any w1).mono ?_
    rintro e w2 ⟨r, m, rfl, hR, hb2, hr, hm⟩
    have hS : St w.heap.size w w2 r m [] [] := ⟨hR, fun b hb => by have := hb1.size; simp at hb; rcases hb with rfl | rfl <;> omega, hb1.trans (hb2.mono hb1.size), Nat.le_trans hb1.size hb2.size⟩
    clear hR hb1 hb2 hr hm
    go_wp2_with fail
    go_loopw [6, 24] (fun l i wr => ∃ (k m : Nat) (ks : List ByteArray) (ns : List Nat), k ≤ n ∧ i = .int .i64 k ∧ ks.length ≤ k ∧ St w.heap.size w wr r m ks ns ∧ LS wr l ks (r :: m :: ns)) (fun _ i _ => n - (intOf i).toNat)
    case atStart =>
      have hSa : St w.heap.size w (w2.alloc (.cells #[] 9)) r m [] [] := hS.below ((Below.refl _ _).alloc (Nat.le_refl _) _)
      exact ⟨0, m, [], [], Nat.zero_le _, rfl, Nat.le_refl _, hSa, LS.of_owns (owns_empty w2 _ 1) (fun b hb => hS.rc.lt b hb)⟩
    case round =>
      obtain ⟨k, m, ks, ns, hk, rfl, hkl, hSt, hl⟩ := hrel
      by_cases hlt : k < n
      · have hkx : k < acts.length := by omega
        obtain ⟨b1, o1, rfl, hc1⟩ := hx.at (j := k * 2) (by rw [actCells_len]; omega)
        obtain ⟨q0, q1⟩ := actCells_at hkx
        have d0 := hc1 _ _ q0
        have d1 := hc1 _ _ q1
        have hb1w := World.block_lt_of_cell? _ _ d0
        have d0 : wr.cell? ⟨b1, o1 + k * 2, none⟩ = some (.int .i64 acts[k].1) := (hSt.bel.cell (by exact hb1w)).trans d0
        have d1 : wr.cell? ⟨b1, o1 + k * 2 + 1, none⟩ = some (.string acts[k].2) := (hSt.bel.cell (by exact hb1w)).trans d1
        obtain ⟨kind, hkind⟩ : ∃ x, x = acts[k].1 := ⟨_, rfl⟩
        obtain ⟨key, hkey⟩ : ∃ x, x = acts[k].2 := ⟨_, rfl⟩
        rw [← hkind] at d0
        rw [← hkey] at d1
        clear hkind hkey hc1 q0 q1 hb1w hS
        have hSA : St w.heap.size w (wr.alloc (.cells #[.int .i64 kind, .string key] 28)) r m ks ns := hSt.below ((Below.refl _ _).alloc (Nat.le_refl _) _)
        have hlA : LS (wr.alloc (.cells #[.int .i64 kind, .string key] 28)) u6 ks (r :: m :: ns) := hl.fr ((Fr.refl _ _).alloc _) (fun b hb => Or.inl hb)
        have gA : wr.heap.size ∉ r :: m :: ns := fun hm => by have := hSt.rc.lt _ hm; omega
        go_upto_block 2 with fail
        go_cut [6, 9, 10] (fun l s9 s10 wx => ∃ (is : Bool) (m : Nat) (ks : List ByteArray) (ns : List Nat), s9 = .bool is ∧ s10 = .bool is ∧ ks.length ≤ k + 1 ∧ St w.heap.size w wx r m ks ns ∧ LS wx l ks (r :: m :: ns) ∧ wx.cell? ⟨wr.heap.size, 1, none⟩ = some (.string key))
        case first =>
          have hcellA : (wr.alloc (.cells #[.int .i64 kind, .string key] 28)).cell? ⟨wr.heap.size, 1, none⟩ = some (.string key) := by simp
          have hltA : wr.heap.size < (wr.alloc (.cells #[.int .i64 kind, .string key] 28)).heap.size := by simp
          obtain ⟨al, cl, rfl⟩ := hl.shape
          have hcellA' := Lib.hid hcellA
          clear d0 d1 hl hx lx
          by_cases h0 : kind = 0
          · have t0 : (kind == 0) = true := by simp [h0]
            replace h0 := Lib.hid h0
            go_wp2_with fail
            refine (touch_any hSA.rc key).mono ?_
            rintro e w3 ⟨rfl, ns3, hR, hf, hn⟩
            have hS3 := hSA.step hR hf hn
            have hl3 := hlA.fr hf (newOf_fp hn)
            have g3 : w3.cell? ⟨wr.heap.size, 1, none⟩ = some (.string key) := hf.cell hcellA'.out gA
            have gs := Nat.lt_of_lt_of_le hltA hf.size
            clear hcellA hSA hlA hR hf hn hltA
            go_wp2_with fail
            refine (touch10_any hl3.reads (by omega) key).mono ?_
            rintro e w4 ⟨v4, rfl, hown, hbel⟩
            have g4 : w4.cell? ⟨wr.heap.size, 1, none⟩ = some (.string key) := (hbel.cell (by exact gs)).trans g3
            have g4 := Lib.hid g4
            clear g3
            go_wp2_with fail
            go_meet
            exact ⟨!decide (key ∈ ks), m, touch ks key, ns3, by simp, by simp, by have := touch_len ks key; omega, hS3.below hbel, LS.of_owns (by simpa [touch] using hown) (fun b hb => hS3.rc.lt b hb), g4.out⟩
          · have t0 : (kind == 0) = false := by simp [h0]
            by_cases h2 : kind = 2
            · have t2 : (kind == 2) = true := by simp [h2]
              replace h2 := Lib.hid h2
              go_wp2_with fail
              refine (clear_rec hSA.rc).mono ?_
              rintro e w3 ⟨rfl, hR, hf⟩
              have hf' : Fr (· ∈ r :: m :: ns) _ w3 := hf.mono (fun i _ hi => by simp at hi; simp [hi])
              have hS3 := hSA.step' hR hf' (fun b hb => by simp at hb; subst hb; exact Or.inr (by simp))
              have g3 : w3.cell? ⟨wr.heap.size, 1, none⟩ = some (.string key) := hf'.cell hcellA'.out gA
              have g3 := Lib.hid g3
              clear hcellA hSA hlA hR hf hf'
              go_wp2_with fail
              go_meet
              exact ⟨false, _, [], [], rfl, rfl, by simp, hS3, LS.nil _ _, g3.out⟩
            · have t2 : (kind == 2) = false := by simp [h2]
              replace h2 := Lib.hid h2
              go_wp2_with fail
              refine (drop_any hSA.rc key).mono ?_
              rintro e w3 ⟨rfl, ns3, hR, hf, hn⟩
              have hS3 := hSA.step hR hf hn
              have hl3 := hlA.fr hf (newOf_fp hn)
              have g3 : w3.cell? ⟨wr.heap.size, 1, none⟩ = some (.string key) := hf.cell hcellA'.out gA
              have gs := Nat.lt_of_lt_of_le hltA hf.size
              clear hcellA hSA hlA hR hf hn hltA
              go_wp2_with fail
              refine (drop10_any hl3.reads (by omega) key).mono ?_
              rintro e w4 ⟨v4, rfl, hown, hbel⟩
              have g4 : w4.cell? ⟨wr.heap.size, 1, none⟩ = some (.string key) := (hbel.cell (by exact gs)).trans g3
              have g4 := Lib.hid g4
              clear g3
              go_wp2_with fail
              go_meet
              exact ⟨decide (key ∈ ks), m, _, ns3, by simp, by simp, by have := List.length_filter_le (fun x : ByteArray => decide (x ≠ key)) ks; omega, hS3.below hbel, LS.of_owns hown (fun b hb => hS3.rc.lt b hb), g4.out⟩
        case rest =>
          obtain ⟨is, m2, ks2, ns2, rfl, rfl, hk2, hS2, hl2, g2⟩ := hcut
          obtain ⟨al, cl, rfl⟩ := hl2.shape
          have gs := World.block_lt_of_cell? _ _ g2
          have hnd := hS2.rc.ksnd
          have hnd := Lib.hid hnd
          clear hl hlA hSA hSt hx d0 d1 lx
          go_wp2_with fail
          refine (oldest_any hS2.rc but).mono ?_
          rintro e w5 ⟨rfl, nq, hw⟩
          have hbel : Below wc.heap.size wc w5 := by rw [hw]; exact Below.drewN (Below.refl _ _)
          rw [oldest_eq but hnd.out]
          have hS5 := hS2.below hbel
          have hl5 := hl2.below hbel
          have g5 : w5.cell? ⟨wr.heap.size, 1, none⟩ = some (.string key) := (hbel.cell (by exact gs)).trans g2
          have gs5 := Nat.lt_of_lt_of_le gs hbel.size
          clear hw hbel hS2 hl2 g2 gs
          go_wp2_with fail
          refine (oldest10_ref hl5.reads (by omega) but).mono ?_
          rintro e w6 ⟨rfl, rfl⟩
          go_wp2_with fail
          have hR5 := hS5.rc
          have hr5 := hl5.reads
          have hks : ks2.length ≤ 1000000 := by omega
          have hks' : ks2.length ≤ 1000000000 := by omega
          go_region_held3 (fun w' => Below w6.heap.size w6 w' ∧ w'.cell? ⟨wr.heap.size, 1, none⟩ = some (.string key)) (first | assumption | exact keepS (by assumption) (by assumption) | exact ⟨Below.drew (Below.refl _ _), by assumption⟩)
            (first
              | (go_at_call 19; refine (len_any (hR5.held (by assumption))).mono ?_; rintro e w' ⟨rfl, rfl⟩)
              | (go_at_call 20; refine (has_any (hR5.held (by assumption)) key).mono ?_; rintro e w' ⟨rfl, rfl⟩)
              | (go_at_call 21; refine (has10_any (hr5.held (by assumption)) hks key).mono ?_; rintro e w' ⟨rfl, rfl⟩)
              | (go_at_call 23; refine (all_any (hR5.held (by assumption)) hks).mono ?_; rintro e w' ⟨v, rfl, hown, hbel⟩; obtain ⟨av, cv, rfl⟩ := (Reads.of_owns hown).shape)
              | (go_at_call 22; refine (same06_b (Reads.of_owns hown) (hr5.held (by assumption)) hks' hks').mono ?_; rintro e w' ⟨rfl, hbel⟩))
          all_goals go_wp2
          all_goals go_roundw
          case rel => exact ⟨k + 1, m2, ks2, ns2, by omega, by go_num, hk2, hS5.held (by assumption), hl5.held (by assumption)⟩
          case measure => simp [intOf]; omega
      · clear hS hx
        go_wp2_with fail
        go_ret
        exact ⟨rfl, hSt.bel⟩
end Go.Proofs.Ytlddjcfbapdjnaa
