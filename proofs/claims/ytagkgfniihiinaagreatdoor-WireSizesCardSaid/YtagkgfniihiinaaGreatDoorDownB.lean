/- wire.Down: a verbatim text, an error text, lists. -/
import Derived.Test.YtagkgfniihiinaaGreatDoorDown
namespace Go.Proofs.YtagkgfniihiinaaGreatDoor
open Go.RowKit Go.Joins
theorem fine11 {v : V} {d : Int} (h : v.fine d = true) (hk : v.kind = 11) : 4 <= v.text.size := by
 rw [V.fine_eq, Bool.and_eq_true, Bool.and_eq_true] at h
 have h2 := h.1.1
 unfold okV at h2
 rw [Bool.and_eq_true, Bool.and_eq_true] at h2
 have h3 := h2.1.2
 unfold Cv at h3
 rw [if_neg (by omega), if_neg (by omega), if_pos hk] at h3
 unfold Dp at h3
 split at h3
 · omega
 · cases h3
set_option maxRecDepth 100000 in
set_option maxHeartbeats 3200000 in
theorem down_11 {v : V} {t : ByteArray} {i : Int} {r : Nat} {f : Bool} {a : Option Addr} {n cap : Nat} {d : Int} {w : World} (hp : DownH v 11 t i r f a n cap d w) :
   Calls Tryz.prog 31 #[.agg #[.int .i64 11, .string t, .int .i64 i, .float .f64 r, .bool f, .slice a n cap]] w (Bx v w) := by
 obtain ⟨ek, et, ei, er, ef, en⟩ := hp.val.len
 have hra := (V.ranged_eq v).1 hp.ranged
 have hLv := hp.laid
 obtain ⟨W2, hW2⟩ : ∃ W2, W2 = (w.alloc (.cells #[.int .i64 11, .string t, .int .i64 i, .float .f64 r, .bool f, .slice a n cap] 26)).alloc (.cells #[.int .i64 0, .string ⟨#[]⟩, .int .i64 0, .float .f64 0, .bool false, .slice none 0 0] 26) := ⟨_, rfl⟩
 have hb2 : Below w.heap.size w W2 := by rw [hW2]; exact ((Below.refl _ _).alloc (Nat.le_refl _) _).alloc (by simp) _
 have hs2 : W2.heap.size = w.heap.size + 2 := by rw [hW2]; simp
 have hB : ∀ q u, #[.int .i64 11, .string t, .int .i64 i, .float .f64 r, .bool f, .slice a n cap][q]? = some u -> W2.cell? ⟨w.heap.size, q, none⟩ = some u := fun q u h => by rw [hW2, World.cell?_alloc_past _ _ _ (by simp), World.cell?_alloc_new]; exact h
 have hrC : W2.rangeAt (w.heap.size + 1) 0 [.int .i64 0, .string ⟨#[]⟩, .int .i64 0, .float .f64 0, .bool false, .slice none 0 0] := fun q u h => by
   rw [Nat.zero_add, hW2, show w.heap.size + 1 = (w.alloc (.cells #[.int .i64 11, .string t, .int .i64 i, .float .f64 r, .bool f, .slice a n cap] 26)).heap.size by simp, World.cell?_alloc_new]; simpa using h
 have hfC : Blk W2 (w.heap.size + 1) := by rw [hW2, show w.heap.size + 1 = (w.alloc (.cells #[.int .i64 11, .string t, .int .i64 i, .float .f64 r, .bool f, .slice a n cap] 26)).heap.size by simp]; exact Blk.new _ _ _
 have hcl := hfC.lt
 have e0 := hB 0 _ rfl
 have e1 := hB 1 _ rfl
 have e2 := hB 2 _ rfl
 have e3 := hB 3 _ rfl
 have e4 := hB 4 _ rfl
 have e5 := hB 5 _ rfl
 clear hB
 replace hW2 := Hd hW2
 replace hb2 := Hd hb2
 replace hs2 := Hd hs2
 replace hrC := Hd hrC
 replace hfC := Hd hfC
 replace ek := Hd ek
 replace et := Hd et
 replace ei := Hd ei
 replace er := Hd er
 replace ef := Hd ef
 replace en := Hd en
 replace hra := Hd hra
 replace hLv := Hd hLv
 replace hp := Hd hp
 go_enter Tryz.func31, Tryz.ntmps31
 go_upto_region 1 with fail
 rw [<- hW2.out]
 have hok := Ao (v := v) (by have := hp.out.fine; rw [V.fine_eq, Bool.and_eq_true, Bool.and_eq_true] at this; exact this.1.1)
 have ht1 : t.size <= 4096 := by rw [et.out]; exact hok.size
 have ht4 : 4 <= t.size := by
   rw [et.out]; exact fine11 hp.out.fine ek.out.symm
 obtain ⟨q, hq⟩ : ∃ q, t.extract 4 t.size = q := ⟨_, rfl⟩
 have hdn : v.down = .mk 4 q 0 0 false [] := by rw [V.down_eq, <- ek.out, <- hq, et.out]; rfl
 replace hdn := Hd hdn
 have hre := Below.refl W2.heap.size W2
 have hmin : min (4 : Int) (t.size : Int) = 4 := by omega
 clear hok
 have htC := A0 (n := 6) (Ab hre hrC.out) (hfC.out.of_block (hre.block (w.heap.size + 1) hcl)) rfl
 have hsW := hre.size
 replace htC := Hd htC
 go_wp2_with (refine wpList_store_mid rfl 26 _ _ rfl (w.heap.size + 1) 0 _ rfl rfl htC.out Af (one6 _ _ _ _ _ _ _ _) ?_)
 have hrR : (W2.setCells (w.heap.size + 1) 0 [.int .i64 4, .string q, .int .i64 0, .float .f64 0, .bool false, .slice none 0 0]).rangeAt (w.heap.size + 1) 0 [.int .i64 4, .string q, .int .i64 0, .float .f64 0, .bool false, .slice none 0 0] := World.rangeAt_setCells_same _ _ _ _ htC.out
 refine bodyPost_ret (Am (v := .agg #[.int .i64 4, .string q, .int .i64 0, .float .f64 0, .bool false, .slice none 0 0]) rfl rfl (run_loadVar_mid (P := Tryz.prog) _ _ 0 26 _ _ hrR Tryz.underlying26 rfl Af)) rfl ?_
 have hfin : Below w.heap.size W2 (W2.setCells (w.heap.size + 1) 0 [.int .i64 4, .string q, .int .i64 0, .float .f64 0, .bool false, .slice none 0 0]) := (Fr.setCells (S := fun k => k = w.heap.size + 1) (fun _ => rfl) _ _ _ (Fr.refl _ W2)).below (by have := hs2.out; omega) (fun j hj e => by omega)
 exact ⟨none, 0, by rw [hdn.out]; rfl, by rw [hdn.out]; exact RV.leaf _ _ _ _ _ _ _ _, (hb2.out.trans (hre.mono (by have := hs2.out; omega))).trans hfin⟩
theorem Fresh.below {w w' : World} {r o cp : Nat} (h : Fresh w r o cp) (hb : Below w.heap.size w w') : Fresh w' r o cp :=
 have k : ∀ {a u}, w.cell? a = some u -> w'.cell? a = some u := fun h => (hb.cell (World.block_lt_of_cell? _ _ h)).trans h
 ⟨k h.c0, k h.c1, k h.c3, k h.c4, h.blk.of_block (hb.block r h.blk.lt), h.ne, h.four.of (hb.block o h.four.lt)⟩
theorem reads_four {w : World} {b : Nat} {t : TypeId} (h : w.heap[b]? = some (.cells #[.string ⟨#[13]⟩, .string ⟨#[32]⟩, .string ⟨#[10]⟩, .string ⟨#[32]⟩] t (0, 0))) : Reads w 1 (.slice (some ⟨b, 0, none⟩) 4 4) 4 fourT :=
 ⟨_, _, rfl, rfl, fun j u hj => ⟨b, 0, rfl, by simp [World.cell?, h]; simpa [fourT] using hj⟩⟩
def dnR (W2 : World) (i : Nat) (w w' : World) : Prop := match i with
 | 0 => Below w.heap.size w w'
 | 1 => Below w.heap.size w w'
 | 4 => Below W2.heap.size w w'
 | 6 => True
 | _ => w' = w
set_option maxRecDepth 100000 in
set_option maxHeartbeats 3200000 in
theorem down_10 {v : V} {t : ByteArray} {i : Int} {r : Nat} {f : Bool} {a : Option Addr} {n cap : Nat} {d : Int} {w : World} (hp : DownH v 10 t i r f a n cap d w) :
   Calls Tryz.prog 31 #[.agg #[.int .i64 10, .string t, .int .i64 i, .float .f64 r, .bool f, .slice a n cap]] w (Bx v w) := by
 obtain ⟨ek, et, ei, er, ef, en⟩ := hp.val.len
 have hra := (V.ranged_eq v).1 hp.ranged
 have hLv := hp.laid
 obtain ⟨W2, hW2⟩ : ∃ W2, W2 = (w.alloc (.cells #[.int .i64 10, .string t, .int .i64 i, .float .f64 r, .bool f, .slice a n cap] 26)).alloc (.cells #[.int .i64 0, .string ⟨#[]⟩, .int .i64 0, .float .f64 0, .bool false, .slice none 0 0] 26) := ⟨_, rfl⟩
 have hb2 : Below w.heap.size w W2 := by rw [hW2]; exact ((Below.refl _ _).alloc (Nat.le_refl _) _).alloc (by simp) _
 have hs2 : W2.heap.size = w.heap.size + 2 := by rw [hW2]; simp
 have hB : ∀ q u, #[.int .i64 10, .string t, .int .i64 i, .float .f64 r, .bool f, .slice a n cap][q]? = some u -> W2.cell? ⟨w.heap.size, q, none⟩ = some u := fun q u h => by rw [hW2, World.cell?_alloc_past _ _ _ (by simp), World.cell?_alloc_new]; exact h
 have hrC : W2.rangeAt (w.heap.size + 1) 0 [.int .i64 0, .string ⟨#[]⟩, .int .i64 0, .float .f64 0, .bool false, .slice none 0 0] := fun q u h => by
   rw [Nat.zero_add, hW2, show w.heap.size + 1 = (w.alloc (.cells #[.int .i64 10, .string t, .int .i64 i, .float .f64 r, .bool f, .slice a n cap] 26)).heap.size by simp, World.cell?_alloc_new]; simpa using h
 have hfC : Blk W2 (w.heap.size + 1) := by rw [hW2, show w.heap.size + 1 = (w.alloc (.cells #[.int .i64 10, .string t, .int .i64 i, .float .f64 r, .bool f, .slice a n cap] 26)).heap.size by simp]; exact Blk.new _ _ _
 have hcl := hfC.lt
 have e0 := hB 0 _ rfl
 have e1 := hB 1 _ rfl
 have e2 := hB 2 _ rfl
 have e3 := hB 3 _ rfl
 have e4 := hB 4 _ rfl
 have e5 := hB 5 _ rfl
 clear hB
 replace hW2 := Hd hW2
 replace hb2 := Hd hb2
 replace hs2 := Hd hs2
 replace hrC := Hd hrC
 replace hfC := Hd hfC
 replace ek := Hd ek
 replace et := Hd et
 replace ei := Hd ei
 replace er := Hd er
 replace ef := Hd ef
 replace en := Hd en
 replace hra := Hd hra
 replace hLv := Hd hLv
 replace hp := Hd hp
 go_enter Tryz.func31, Tryz.ntmps31
 go_upto_region 1 with fail
 rw [<- hW2.out]
 have hok := Ao (v := v) (by have := hp.out.fine; rw [V.fine_eq, Bool.and_eq_true, Bool.and_eq_true] at this; exact this.1.1)
 have htz : t.size <= 1000000000000 := by have := hok.size; rw [et.out]; omega
 have hdn : v.down = .mk 2 (Ay t) 0 0 false [] := by rw [V.down_eq, <- ek.out, et.out]; rfl
 replace hdn := Hd hdn
 clear hok
 have hB9 : w.heap.size < W2.heap.size := by have := hs2.out; omega
 go_upto_region 14 with fail
 obtain ⟨B9, hBe⟩ : ∃ B, w.heap.size = B := ⟨_, rfl⟩
 rw [hBe] at hrC hfC hcl e1 hB9 hs2 ⊢
 refine wp_region_rely (l := [_, _, _, _, _, _, _]) (fun _ => True) (Below W2.heap.size W2) (dnR W2) (fun kG_ => ([fun v w => ∃ b, v = .slice (some ⟨b, 0, none⟩) 4 4 /\ w.heap[b]? = some (.cells #[.string ⟨#[13]⟩, .string ⟨#[32]⟩, .string ⟨#[10]⟩, .string ⟨#[32]⟩] 9 (0, 0)), fun v w => ∃ rr o cp, v = .pointer (some ⟨rr, 0, none⟩) /\ W2.heap.size <= rr /\ Fresh w rr o cp, fun v _ => v = .pointer (some ⟨B9, 1, none⟩), fun v _ => v = .string t, fun v _ => v = .string (Ay t), fun v _ => v = .agg #[.int .i64 2, .string (Ay t), .int .i64 0, .float .f64 0, .bool false, .slice none 0 0], fun v w => ∃ w1 : World, w = w1.setCells (B9 + 1) 0 [.int .i64 2, .string (Ay t), .int .i64 0, .float .f64 0, .bool false, .slice none 0 0] /\ Below W2.heap.size W2 w1] : List (Value -> World -> Prop)).getD kG_ (fun _ _ => True)) (eats [(1, 0), (4, 1)]) (isIn [6]) (by kernel_rfl) (by kernel_rfl) (by kernel_rfl) trivial ((Below.refl _ _).drew) ?_ ?_ ?_ ?_
 · intro i kG_ u w w' hne hE hg hr
   rcases kG_ with _ | _ | _ | _ | _ | _ | _ | kG_
   · replace hg : (fun (v : Value) (w : World) => ∃ b, v = .slice (some ⟨b, 0, none⟩) 4 4 /\ w.heap[b]? = some (.cells #[.string ⟨#[13]⟩, .string ⟨#[32]⟩, .string ⟨#[10]⟩, .string ⟨#[32]⟩] 9 (0, 0))) u w := hg
     show (fun (v : Value) (w : World) => ∃ b, v = .slice (some ⟨b, 0, none⟩) 4 4 /\ w.heap[b]? = some (.cells #[.string ⟨#[13]⟩, .string ⟨#[32]⟩, .string ⟨#[10]⟩, .string ⟨#[32]⟩] 9 (0, 0))) u w'
     dsimp only at hg ⊢
     replace hE : exB _ _ i 0 = false := hE
     replace hne : 0 ≠ i := hne
     unfold dnR at hr
     split at hr
     all_goals first
       | exact absurd rfl hne
       | exact absurd (hE.symm.trans (by decide +kernel : exB _ _ _ _ = true)) (by decide)
       | (subst hr; exact hg)
       | ((obtain ⟨b, h1, h2⟩ := hg; exact ⟨b, h1, (hr.block b (Array.getElem?_eq_some_iff.1 h2).1).trans h2⟩))
   · replace hg : (fun (v : Value) (w : World) => ∃ rr o cp, v = .pointer (some ⟨rr, 0, none⟩) /\ W2.heap.size <= rr /\ Fresh w rr o cp) u w := hg
     show (fun (v : Value) (w : World) => ∃ rr o cp, v = .pointer (some ⟨rr, 0, none⟩) /\ W2.heap.size <= rr /\ Fresh w rr o cp) u w'
     dsimp only at hg ⊢
     replace hE : exB _ _ i 1 = false := hE
     replace hne : 1 ≠ i := hne
     unfold dnR at hr
     split at hr
     all_goals first
       | exact absurd rfl hne
       | exact absurd (hE.symm.trans (by decide +kernel : exB _ _ _ _ = true)) (by decide)
       | (subst hr; exact hg)
       | ((obtain ⟨rr, o, cp, h1, h2, h3⟩ := hg; exact ⟨rr, o, cp, h1, h2, h3.below hr⟩))
   · exact hg
   · exact hg
   · exact hg
   · exact hg
   · replace hg : (fun (v : Value) (w : World) => ∃ w1 : World, w = w1.setCells (B9 + 1) 0 [.int .i64 2, .string (Ay t), .int .i64 0, .float .f64 0, .bool false, .slice none 0 0] /\ Below W2.heap.size W2 w1) u w := hg
     show (fun (v : Value) (w : World) => ∃ w1 : World, w = w1.setCells (B9 + 1) 0 [.int .i64 2, .string (Ay t), .int .i64 0, .float .f64 0, .bool false, .slice none 0 0] /\ Below W2.heap.size W2 w1) u w'
     dsimp only at hg ⊢
     replace hE : exB _ _ i 6 = false := hE
     replace hne : 6 ≠ i := hne
     unfold dnR at hr
     split at hr
     all_goals first
       | exact absurd rfl hne
       | exact absurd (hE.symm.trans (by decide +kernel : exB _ _ _ _ = true)) (by decide)
       | (subst hr; exact hg)
       | (fail)
   · trivial
 · intro j w6 w7 hF hI hr
   unfold dnR at hr
   split at hr
   · exact hI.trans (hr.mono hI.size)
   · exact hI.trans (hr.mono hI.size)
   · exact hI.trans hr
   · exact absurd hF (by decide)
   · subst hr; exact hI
 · refine ⟨?_, ?_, ?_, ?_, ?_, ?_, ?_, trivial⟩
   · refine VC.plain rfl fun a wx hf => ?_
     exact Ac (u := .slice (some ⟨wx.heap.size, 0, none⟩) 4 4) (w' := wx.alloc (.cells #[.string ⟨#[13]⟩, .string ⟨#[32]⟩, .string ⟨#[10]⟩, .string ⟨#[32]⟩] 9)) (by simp [go_sem, Tryz.underlying33]) ⟨trivial, (Below.refl _ _).alloc (Nat.le_refl _) _, wx.heap.size, rfl, (MapKept.heap_alloc wx _).1⟩
   · refine VC.plain rfl fun a wx hf => ?_
     obtain ⟨v38, g38, s38⟩ := hf.got 0 (by kernel_rfl) (by intro j hj; simp [eats] at hj; omega) rfl rfl
     have q38 := Ah s38
     replace g38 : (fun (v : Value) (w : World) => ∃ b, v = .slice (some ⟨b, 0, none⟩) 4 4 /\ w.heap[b]? = some (.cells #[.string ⟨#[13]⟩, .string ⟨#[32]⟩, .string ⟨#[10]⟩, .string ⟨#[32]⟩] 9 (0, 0))) v38 wx := g38
     dsimp only at g38
     have hI := hf.start (by kernel_rfl)
     obtain ⟨b, rfl, hb⟩ := g38
     have hIs := hI.size
     exact Bk (f := 49) (args := #[.slice (some ⟨b, 0, none⟩) 4 4]) (by simp [go_sem, q38]) ((new_any (reads_four hb)).mono fun e w' ⟨rr, o, cp, he, hr1, hr2, hfr, hbl⟩ => ⟨_, he, trivial, hbl, rr, o, cp, rfl, by omega, hfr⟩)
   · refine VC.plain rfl fun a wx hf => ?_
     have s1 := hf.old 1 (by first | rfl | kernel_rfl)
     have q1 := Ah s1
     exact Ac (by simp [go_sem, q1]) ⟨hf.c, rfl, rfl⟩
   · refine VC.plain rfl fun a wx hf => ?_
     obtain ⟨v40, g40, s40⟩ := hf.got 2 (by kernel_rfl) (by intro j hj; simp [eats] at hj) rfl rfl
     replace s40 := s40.trans (show v40 = .pointer (some ⟨B9, 1, none⟩) from g40)
     clear g40
     have q40 := Ah s40
     have hI := hf.start (by kernel_rfl)
     exact Ac (by simp [go_sem, q40, hI.cell (p := ⟨B9, 1, none⟩) hB9, e1]) ⟨trivial, rfl, rfl⟩
   · refine VC.plain rfl fun a wx hf => ?_
     obtain ⟨v39, g39, s39⟩ := hf.got 1 (by kernel_rfl) (by intro j hj; simp [eats] at hj; omega) rfl rfl
     have q39 := Ah s39
     replace g39 : (fun (v : Value) (w : World) => ∃ rr o cp, v = .pointer (some ⟨rr, 0, none⟩) /\ W2.heap.size <= rr /\ Fresh w rr o cp) v39 wx := g39
     dsimp only at g39
     obtain ⟨v41, g41, s41⟩ := hf.got 3 (by kernel_rfl) (by intro j hj; simp [eats] at hj) rfl rfl
     replace s41 := s41.trans (show v41 = .string t from g41)
     clear g41
     have q41 := Ah s41
     have hI := hf.start (by kernel_rfl)
     obtain ⟨rr, o, cp, rfl, hr1, hfr⟩ := g39
     have hIs := hI.size
     exact Bk (f := 50) (args := #[.pointer (some ⟨rr, 0, none⟩), .string t]) (by simp [go_sem, q39, q41]) ((Ft hfr t htz).mono fun e w' ⟨he, hf2⟩ => ⟨_, he, trivial, hf2.below hIs (fun j hj e => by omega), rfl⟩)
   · refine VC.plain rfl fun a wx hf => ?_
     obtain ⟨v42, g42, s42⟩ := hf.got 4 (by kernel_rfl) (by intro j hj; simp [eats] at hj) rfl rfl
     replace s42 := s42.trans (show v42 = .string (Ay t) from g42)
     clear g42
     have q42 := Ah s42
     exact Ac (by simp [go_sem, q42]) ⟨trivial, rfl, rfl⟩
   · refine VC.plain rfl fun a wx hf => ?_
     have s2 := hf.old 2 (by first | rfl | kernel_rfl)
     have q2 := Ah s2
     obtain ⟨v43, g43, s43⟩ := hf.got 5 (by kernel_rfl) (by intro j hj; simp [eats] at hj) rfl rfl
     replace s43 := s43.trans (show v43 = .agg #[.int .i64 2, .string (Ay t), .int .i64 0, .float .f64 0, .bool false, .slice none 0 0] from g43)
     clear g43
     have q43 := Ah s43
     have hI := hf.start (by kernel_rfl)
     have htC := A0 (n := 6) (Ab hI hrC.out) (hfC.out.of_block (hI.block (B9 + 1) hcl)) rfl
     exact Fc rfl s2 s43 htC Af (one6 _ _ _ _ _ _ _ _) ⟨trivial, trivial, wx, rfl, hI⟩
 · intro vs w5 _ hG
   obtain ⟨w6, e, hb6⟩ := hG 6 (by decide) (by decide)
   clear hG
   subst e
   have htC := A0 (n := 6) (Ab hb6 hrC.out) (hfC.out.of_block (hb6.block (B9 + 1) hcl)) rfl
   have hrR : (w6.setCells (B9 + 1) 0 [.int .i64 2, .string (Ay t), .int .i64 0, .float .f64 0, .bool false, .slice none 0 0]).rangeAt (B9 + 1) 0 [.int .i64 2, .string (Ay t), .int .i64 0, .float .f64 0, .bool false, .slice none 0 0] := World.rangeAt_setCells_same _ _ _ _ htC
   have hs6 := hb6.size
   have hfin : Below B9 w6 (w6.setCells (B9 + 1) 0 [.int .i64 2, .string (Ay t), .int .i64 0, .float .f64 0, .bool false, .slice none 0 0]) := (Fr.setCells (S := fun k => k = B9 + 1) (fun _ => rfl) _ _ _ (Fr.refl _ w6)).below (by have := hs2.out; omega) (fun j hj e => by omega)
   replace hrR := Hd hrR
   replace hfin := Hd hfin
   replace hb6 := Hd hb6
   clear htC
   simp only [putFrom, Act.put, List.setIfInBounds_toArray, List.set_cons_zero, List.set_cons_succ]
   go_wp2_with fail
   refine bodyPost_ret (Am (v := .agg #[.int .i64 2, .string (Ay t), .int .i64 0, .float .f64 0, .bool false, .slice none 0 0]) rfl rfl (run_loadVar_mid (P := Tryz.prog) _ _ 0 26 _ _ hrR.out Tryz.underlying26 rfl Af)) rfl ?_
   have hb2' := hb2.out
   rw [hBe] at hb2'
   refine ⟨none, 0, by rw [hdn.out]; rfl, by rw [hdn.out]; exact RV.leaf _ _ _ _ _ _ _ _, ?_⟩
   rw [hBe]
   exact (hb2'.trans (hb6.out.mono (by have := hs2.out; omega))).trans hfin.out
end Go.Proofs.YtagkgfniihiinaaGreatDoor
