/- wire.Down: lists. -/
import Derived.Test.YtagkgfniihiinaaGreatDoorDownB
namespace Go.Proofs.YtagkgfniihiinaaGreatDoor
open Go.RowKit Go.Joins
theorem Co {w : World} {b size : Nat} {us : Array Value} {t : TypeId} (h : w.heap[b]? = some (.cells us t (0, 0))) (hs : us.size = size) : Reads w size (.slice (some ⟨b, 0, none⟩) 1 1) 1 us.toList :=
 ⟨_, _, rfl, by simp [hs], fun j u hj => ⟨b, 0, rfl, by simp [World.cell?, h]; simpa using hj⟩⟩
def DApp (D : Nat) (W4 : World) (old : Value) (j : Nat) (css : List (List Value)) (pre : List V) (y : V) (v : Value) (w : World) : Prop :=
 ∃ (a1 : Option Addr) (c1 : Nat), Fr (fun k => old.ownBlock = some k) W4 w /\ w.ownsRow (D + 1) 26 6 v (j + 1) (css.flatten ++ Ad y.kind y.text y.int y.real y.flag a1 y.list.length c1) /\
   RVs (nf (D + 1) v.ownBlock w) (css ++ [Ad y.kind y.text y.int y.real y.flag a1 y.list.length c1]) (pre ++ [y])
def dlR (i : Nat) (w w' : World) : Prop := match i with
 | 3 => Below w.heap.size w w'
 | 4 => Below w.heap.size w w'
 | 5 => True
 | 7 => True
 | _ => w' = w
def DownIH (v : V) : Prop := ∀ x ∈ v.list, ∀ (k : Int) (t : ByteArray) (i : Int) (r : Nat) (f : Bool) (a : Option Addr) (n cap : Nat) (d : Int) (w : World), DownH x k t i r f a n cap d w ->
   Calls Tryz.prog 31 #[.agg #[.int .i64 k, .string t, .int .i64 i, .float .f64 r, .bool f, .slice a n cap]] w (Bx x w)
namespace R2
set_option maxRecDepth 100000 in
set_option maxHeartbeats 6400000 in
theorem down_5 {v : V} (ih : DownIH v) {t : ByteArray} {i : Int} {r : Nat} {f : Bool} {a : Option Addr} {n cap : Nat} {d : Int} {w : World} (hp : DownH v 5 t i r f a n cap d w) :
   Calls Tryz.prog 31 #[.agg #[.int .i64 5, .string t, .int .i64 i, .float .f64 r, .bool f, .slice a n cap]] w (Bx v w) := by
 replace ih := Hd ih
 obtain ⟨ek, et, ei, er, ef, en⟩ := hp.val.len
 have hra := (V.ranged_eq v).1 hp.ranged
 have hLv := hp.laid
 obtain ⟨W2, hW2⟩ : ∃ W2, W2 = (w.alloc (.cells #[.int .i64 5, .string t, .int .i64 i, .float .f64 r, .bool f, .slice a n cap] 26)).alloc (.cells #[.int .i64 0, .string ⟨#[]⟩, .int .i64 0, .float .f64 0, .bool false, .slice none 0 0] 26) := ⟨_, rfl⟩
 have hb2 : Below w.heap.size w W2 := by rw [hW2]; exact ((Below.refl _ _).alloc (Nat.le_refl _) _).alloc (by simp) _
 have hs2 : W2.heap.size = w.heap.size + 2 := by rw [hW2]; simp
 have hB : ∀ q u, #[.int .i64 5, .string t, .int .i64 i, .float .f64 r, .bool f, .slice a n cap][q]? = some u -> W2.cell? ⟨w.heap.size, q, none⟩ = some u := fun q u h => by rw [hW2, World.cell?_alloc_past _ _ _ (by simp), World.cell?_alloc_new]; exact h
 have hrC : W2.rangeAt (w.heap.size + 1) 0 [.int .i64 0, .string ⟨#[]⟩, .int .i64 0, .float .f64 0, .bool false, .slice none 0 0] := fun q u h => by
   rw [Nat.zero_add, hW2, show w.heap.size + 1 = (w.alloc (.cells #[.int .i64 5, .string t, .int .i64 i, .float .f64 r, .bool f, .slice a n cap] 26)).heap.size by simp, World.cell?_alloc_new]; simpa using h
 have hfC : Blk W2 (w.heap.size + 1) := by rw [hW2, show w.heap.size + 1 = (w.alloc (.cells #[.int .i64 5, .string t, .int .i64 i, .float .f64 r, .bool f, .slice a n cap] 26)).heap.size by simp]; exact Blk.new _ _ _
 have hcl := hfC.lt
 have e0 := hB 0 _ rfl
 have e1 := hB 1 _ rfl
 have e2 := hB 2 _ rfl
 have e3 := hB 3 _ rfl
 have e4 := hB 4 _ rfl
 have e5 := hB 5 _ rfl
 clear hB
 replace hW2 := Hd hW2
 replace hb2 := Hd hb2
 replace hs2 := Hd hs2
 replace hrC := Hd hrC
 replace hfC := Hd hfC
 replace ek := Hd ek
 replace et := Hd et
 replace ei := Hd ei
 replace er := Hd er
 replace ef := Hd ef
 replace en := Hd en
 replace hra := Hd hra
 replace hLv := Hd hLv
 replace hp := Hd hp
 go_enter Tryz.func31, Tryz.ntmps31
 go_upto_region 1 with fail
 rw [<- hW2.out]
 have hdn : v.down = .mk 5 ⟨#[]⟩ 0 0 false (v.list.map V.down) := by rw [V.down_eq, <- ek.out]; rfl
 have hfe := hp.out.fine
 rw [V.fine_eq, Bool.and_eq_true] at hfe
 have hn9 : n <= 100000 := by
   have h1 := hp.out.count
   have h2 := V.length_le v.list
   have h3 := v.count_eq
   have h4 := en.out
   omega
 replace hdn := Hd hdn
 replace hfe := Hd hfe
 obtain ⟨W3, hW3⟩ : ∃ W3, W3 = W2.alloc (.cells #[.int .i64 5, .string ⟨#[]⟩, .int .i64 0, .float .f64 0, .bool false, .slice none 0 0] 26) := ⟨_, rfl⟩
 obtain ⟨D, hD⟩ : ∃ D, W2.heap.size = D := ⟨_, rfl⟩
 have hb3 : Below D W2 W3 := by rw [hW3, <- hD]; exact (Below.refl _ _).alloc (Nat.le_refl _) _
 have hrg : W3.rangeAt D 0 [.int .i64 5, .string ⟨#[]⟩, .int .i64 0, .float .f64 0, .bool false, .slice none 0 0] := by
   rw [hW3, <- hD]; intro q u hq; rw [Nat.zero_add, World.cell?_alloc_new]; simpa using hq
 have hbk : Blk W3 D := by rw [hW3, <- hD]; exact Blk.new _ _ _
 have hs3 : W3.heap.size = D + 1 := by rw [hW3, <- hD]; simp
 have e5' : (W2.alloc (.cells #[.int .i64 5, .string ⟨#[]⟩, .int .i64 0, .float .f64 0, .bool false, .slice none 0 0] 26)).cell? ⟨w.heap.size, 5, none⟩ = some (.slice a n cap) := by
   rw [<- hW3]; exact (hb3.cell (show w.heap.size < D by have := hs2.out; omega)).trans e5
 replace hW3 := Hd hW3
 replace hb3 := Hd hb3
 replace hrg := Hd hrg
 replace hbk := Hd hbk
 replace hs3 := Hd hs3
 replace hD := Hd hD
 clear e1 e2 e3 e4
 go_wp2_with fail
 rw [<- hW3.out, hD.out]
 rw [hD.out] at hcl
 have hs2' := hs2.out
 rw [hD.out] at hs2'
 go_loopw [53] (fun q wr => ∃ (j : Nat) (lv : Value) (css : List (List Value)), j <= n /\ q = .int .i64 j /\ wr.ownsRow (D + 1) 26 6 lv j css.flatten /\ RVs (nf (D + 1) lv.ownBlock wr) css ((v.list.take j).map V.down) /\
     wr.rangeAt D 0 [.int .i64 5, .string ⟨#[]⟩, .int .i64 0, .float .f64 0, .bool false, lv] /\ Blk wr D /\ Below D W2 wr /\ D + 1 <= wr.heap.size) (fun q _ => n - (intOf q).toNat)
 case atStart => exact ⟨0, _, [], Nat.zero_le _, rfl, World.ownsRow_nil _ _ _ _, RVs.nil _, hrg.out, hbk.out, hb3.out, by have := hs3.out; omega⟩
 case round =>
   obtain ⟨j, lv, css, hj, rfl, hown, hrs, hr, hk, hbel, hsz⟩ := hrel
   clear hrg hbk hb3 hs3 e0 e5 e5'
   have hbw : Below w.heap.size w wr := hb2.out.trans (hbel.mono (by omega))
   by_cases hlt : j < n
   · have hlti : (j : Int) < (n : Int) := by omega
     have hvw := hp.out.val.mono (Aa hbw)
     rw [show Ad 5 t i r f a n cap = Ad v.kind v.text v.int v.real v.flag a n cap by rw [<- ek.out, <- et.out, <- ei.out, <- er.out, <- ef.out]] at hvw
     obtain ⟨x, bb, o, ax, cx, hxj, hmem, rfl, hx, d0, d1, d2, d3, d4, d5⟩ := hvw.elem' hlt
     have hts : v.list.take (j + 1) = v.list.take j ++ [x] := by
       obtain ⟨h1, h2⟩ := List.getElem?_eq_some_iff.1 hxj
       rw [List.take_succ_eq_append_getElem h1, h2]
     obtain ⟨ae, ce, rfl⟩ := (Reads.of_owns hown).shape
     obtain ⟨W4, hW4⟩ : ∃ W4, W4 = wr.alloc (.cells #[.int .i64 x.kind, .string x.text, .int .i64 x.int, .float .f64 x.real, .bool x.flag, .slice ax x.list.length cx] 26) := ⟨_, rfl⟩
     have hb4 : Below wr.heap.size wr W4 := by rw [hW4]; exact (Below.refl _ _).alloc (Nat.le_refl _) _
     have hs4 : W4.heap.size = wr.heap.size + 1 := by rw [hW4]; simp
     have hr6 : W4.rangeAt wr.heap.size 0 [.int .i64 x.kind, .string x.text, .int .i64 x.int, .float .f64 x.real, .bool x.flag, .slice ax x.list.length cx] := by
       rw [hW4]; intro q u hq; rw [Nat.zero_add, World.cell?_alloc_new]; simpa using hq
     have hrow := Ba hown (Fr.of_below hb4) (fun k hk hle => by have := (Ae hown k hk).2; omega)
     have hrvs := hrs.mono (Ci (B := D + 1) (own := (Value.slice ae j ce).ownBlock) hb4)
     have hrD := Ab hb4 hr
     have hblk := hk.of_block (hb4.block D (by omega))
     have hc5 : W4.cell? ⟨D, 5, none⟩ = some (.slice ae j ce) := by have := hrD 5 _ rfl; simpa using this
     have hDl : D < W4.heap.size := by omega
     have hDs : D + 1 <= W4.heap.size := by omega
     have hDo : ¬ (Value.slice ae j ce).ownBlock = some D := fun e => by have := (Ae hrow D e).1; omega
     have hbel4 : Below D W2 W4 := hbel.trans (hb4.mono (by omega))
     have hlv4 : LaidV W4.heap.size W4 := ((hLv.out.below (hbw.trans (hb4.mono hbw.size)) (Nat.le_refl _)).mono (by have := hbw.size; omega))
     have hih : ∀ wx, Below W4.heap.size W4 wx -> Calls Tryz.prog 31 #[.agg #[.int .i64 x.kind, .string x.text, .int .i64 x.int, .float .f64 x.real, .bool x.flag, .slice ax x.list.length cx]] wx (Bx x wx) := fun wx hI =>
       ih.out x hmem _ _ _ _ _ _ _ _ (d - 1) wx ⟨(hx.mono (Aa hb4)).mono (Aa hI), Bb hfe.out.2 x hmem, V.rangedL_mem hra.out.2.2.2 x hmem, by
         have h1 := V.count_mem hmem
         have h2 := hp.out.count
         have h3 := v.count_eq
         omega, (hlv4.below hI (Nat.le_refl _)).mono hI.size⟩
     have hjn9 : j + 1 < 1000000000 := by omega
     replace hW4 := Hd hW4
     replace hih := Hd hih
     replace hrow := Hd hrow
     replace hrvs := Hd hrvs
     replace hts := Hd hts
     clear hown hrs hr hk hbel hx hvw hb4
     replace hr6 := Hd hr6
     replace hrD := Hd hrD
     replace hc5 := Hd hc5
     go_upto_region 23 with fail
     rw [<- hW4.out]
     replace hih := hih.out
     replace hrow := hrow.out
     replace hrvs := hrvs.out
     replace hr6 := hr6.out
     replace hrD := hrD.out
     replace hc5 := hc5.out
     obtain ⟨pre, hpre⟩ : ∃ pre, pre = (v.list.take j).map V.down := ⟨_, rfl⟩
     rw [<- hpre] at hrvs
     refine wp_region_rely (l := [_, _, _, _, _, _, _, _]) (fun _ => True) (Below W4.heap.size W4) dlR (fun kG_ => ([fun v _ => v = .pointer (some ⟨D, 5, none⟩), fun v _ => v = .slice ae j ce, fun v _ => v = .agg #[.int .i64 x.kind, .string x.text, .int .i64 x.int, .float .f64 x.real, .bool x.flag, .slice ax x.list.length cx], fun v w => ∃ (a1 : Option Addr) (c1 : Nat), v = .agg #[.int .i64 x.down.kind, .string x.down.text, .int .i64 x.down.int, .float .f64 x.down.real, .bool x.down.flag, .slice a1 x.down.list.length c1] /\ RV (As W4.heap.size w) (Ad x.down.kind x.down.text x.down.int x.down.real x.down.flag a1 x.down.list.length c1) x.down, fun v w => ∃ (b : Nat) (a1 : Option Addr) (c1 : Nat), v = .slice (some ⟨b, 0, none⟩) 1 1 /\ w.heap[b]? = some (.cells #[.int .i64 x.down.kind, .string x.down.text, .int .i64 x.down.int, .float .f64 x.down.real, .bool x.down.flag, .slice a1 x.down.list.length c1] 26 (0, 0)) /\ RV (As W4.heap.size w) (Ad x.down.kind x.down.text x.down.int x.down.real x.down.flag a1 x.down.list.length c1) x.down, fun v w => DApp D W4 (.slice ae j ce) j css pre x.down v w, fun v _ => v = .pointer (some ⟨D, 5, none⟩), fun v w => ∃ (v1 : Value) (w1 : World), w = w1.setCell ⟨D, 5, none⟩ v1 /\ DApp D W4 (.slice ae j ce) j css pre x.down v1 w1] : List (Value -> World -> Prop)).getD kG_ (fun _ _ => True)) (eats [(4, 3), (5, 4), (7, 5)]) (isIn [5, 7]) (by kernel_rfl) (by kernel_rfl) (by kernel_rfl) trivial ((Below.refl _ _).drew) ?_ ?_ ?_ ?_
     · intro i kG_ u w w' hne hE hg hr
       rcases kG_ with _ | _ | _ | _ | _ | _ | _ | _ | kG_
       · exact hg
       · exact hg
       · exact hg
       · replace hg : (fun (v : Value) (w : World) => ∃ (a1 : Option Addr) (c1 : Nat), v = .agg #[.int .i64 x.down.kind, .string x.down.text, .int .i64 x.down.int, .float .f64 x.down.real, .bool x.down.flag, .slice a1 x.down.list.length c1] /\ RV (As W4.heap.size w) (Ad x.down.kind x.down.text x.down.int x.down.real x.down.flag a1 x.down.list.length c1) x.down) u w := hg
         show (fun (v : Value) (w : World) => ∃ (a1 : Option Addr) (c1 : Nat), v = .agg #[.int .i64 x.down.kind, .string x.down.text, .int .i64 x.down.int, .float .f64 x.down.real, .bool x.down.flag, .slice a1 x.down.list.length c1] /\ RV (As W4.heap.size w) (Ad x.down.kind x.down.text x.down.int x.down.real x.down.flag a1 x.down.list.length c1) x.down) u w'
         dsimp only at hg ⊢
         replace hE : exB _ _ i 3 = false := hE
         replace hne : 3 ≠ i := hne
         unfold dlR at hr
         split at hr
         all_goals first
           | exact absurd rfl hne
           | exact absurd (hE.symm.trans (by decide +kernel : exB _ _ _ _ = true)) (by decide)
           | (subst hr; exact hg)
           | ((obtain ⟨a1, c1, h1, h2⟩ := hg; exact ⟨a1, c1, h1, h2.mono (Aw hr)⟩))
       · replace hg : (fun (v : Value) (w : World) => ∃ (b : Nat) (a1 : Option Addr) (c1 : Nat), v = .slice (some ⟨b, 0, none⟩) 1 1 /\ w.heap[b]? = some (.cells #[.int .i64 x.down.kind, .string x.down.text, .int .i64 x.down.int, .float .f64 x.down.real, .bool x.down.flag, .slice a1 x.down.list.length c1] 26 (0, 0)) /\ RV (As W4.heap.size w) (Ad x.down.kind x.down.text x.down.int x.down.real x.down.flag a1 x.down.list.length c1) x.down) u w := hg
         show (fun (v : Value) (w : World) => ∃ (b : Nat) (a1 : Option Addr) (c1 : Nat), v = .slice (some ⟨b, 0, none⟩) 1 1 /\ w.heap[b]? = some (.cells #[.int .i64 x.down.kind, .string x.down.text, .int .i64 x.down.int, .float .f64 x.down.real, .bool x.down.flag, .slice a1 x.down.list.length c1] 26 (0, 0)) /\ RV (As W4.heap.size w) (Ad x.down.kind x.down.text x.down.int x.down.real x.down.flag a1 x.down.list.length c1) x.down) u w'
         dsimp only at hg ⊢
         replace hE : exB _ _ i 4 = false := hE
         replace hne : 4 ≠ i := hne
         unfold dlR at hr
         split at hr
         all_goals first
           | exact absurd rfl hne
           | exact absurd (hE.symm.trans (by decide +kernel : exB _ _ _ _ = true)) (by decide)
           | (subst hr; exact hg)
           | ((obtain ⟨b, a1, c1, h1, h2, h3⟩ := hg; exact ⟨b, a1, c1, h1, (hr.block b (Array.getElem?_eq_some_iff.1 h2).1).trans h2, h3.mono (Aw hr)⟩))
       · replace hg : (fun (v : Value) (w : World) => DApp D W4 (.slice ae j ce) j css pre x.down v w) u w := hg
         show (fun (v : Value) (w : World) => DApp D W4 (.slice ae j ce) j css pre x.down v w) u w'
         dsimp only at hg ⊢
         replace hE : exB _ _ i 5 = false := hE
         replace hne : 5 ≠ i := hne
         unfold dlR at hr
         split at hr
         all_goals first
           | exact absurd rfl hne
           | exact absurd (hE.symm.trans (by decide +kernel : exB _ _ _ _ = true)) (by decide)
           | (subst hr; exact hg)
           | (fail)
       · exact hg
       · replace hg : (fun (v : Value) (w : World) => ∃ (v1 : Value) (w1 : World), w = w1.setCell ⟨D, 5, none⟩ v1 /\ DApp D W4 (.slice ae j ce) j css pre x.down v1 w1) u w := hg
         show (fun (v : Value) (w : World) => ∃ (v1 : Value) (w1 : World), w = w1.setCell ⟨D, 5, none⟩ v1 /\ DApp D W4 (.slice ae j ce) j css pre x.down v1 w1) u w'
         dsimp only at hg ⊢
         replace hE : exB _ _ i 7 = false := hE
         replace hne : 7 ≠ i := hne
         unfold dlR at hr
         split at hr
         all_goals first
           | exact absurd rfl hne
           | exact absurd (hE.symm.trans (by decide +kernel : exB _ _ _ _ = true)) (by decide)
           | (subst hr; exact hg)
           | (fail)
       · trivial
     · intro jj w6 w7 hF hI hr
       unfold dlR at hr
       split at hr
       · exact hI.trans (hr.mono hI.size)
       · exact hI.trans (hr.mono hI.size)
       · exact absurd hF (by decide)
       · exact absurd hF (by decide)
       · subst hr; exact hI
     · refine ⟨?_, ?_, ?_, ?_, ?_, ?_, ?_, ?_, trivial⟩
       · refine VC.plain rfl fun a wx hf => ?_
         have s4 := hf.old 4 (by first | rfl | kernel_rfl)
         have q4 := Ah s4
         exact Ac (by simp [go_sem, q4]) ⟨hf.c, rfl, rfl⟩
       · refine VC.plain rfl fun a wx hf => ?_
         obtain ⟨v57, g57, s57⟩ := hf.got 0 (by kernel_rfl) (by intro j hj; simp [eats] at hj) rfl rfl
         replace s57 := s57.trans (show v57 = .pointer (some ⟨D, 5, none⟩) from g57)
         clear g57
         have q57 := Ah s57
         have hI := hf.start (by kernel_rfl)
         exact Ac (by simp [go_sem, q57, hI.cell (p := ⟨D, 5, none⟩) hDl, hc5]) ⟨trivial, rfl, rfl⟩
       · refine VC.plain rfl fun a wx hf => ?_
         have s6 := hf.old 6 (by first | rfl | kernel_rfl)
         have q6 := Ah s6
         have hI := hf.start (by kernel_rfl)
         exact Bo rfl s6 (Ab hI hr6) Tryz.underlying26 rfl Af ⟨trivial, rfl, rfl⟩
       · refine VC.plain rfl fun a wx hf => ?_
         obtain ⟨v59, g59, s59⟩ := hf.got 2 (by kernel_rfl) (by intro j hj; simp [eats] at hj) rfl rfl
         replace s59 := s59.trans (show v59 = .agg #[.int .i64 x.kind, .string x.text, .int .i64 x.int, .float .f64 x.real, .bool x.flag, .slice ax x.list.length cx] from g59)
         clear g59
         have q59 := Ah s59
         have hI := hf.start (by kernel_rfl)
         exact Bk (f := 31) (args := #[.agg #[.int .i64 x.kind, .string x.text, .int .i64 x.int, .float .f64 x.real, .bool x.flag, .slice ax x.list.length cx]]) (by simp [go_sem, q59]) ((hih wx hI).mono fun e w' ⟨a1, c1, he, h1, h2⟩ => ⟨_, he, trivial, h2, a1, c1, rfl, h1.mono (Bm hI.size)⟩)
       · refine VC.plain rfl fun a wx hf => ?_
         obtain ⟨v60, g60, s60⟩ := hf.got 3 (by kernel_rfl) (by intro j hj; simp [eats] at hj; omega) rfl rfl
         have q60 := Ah s60
         replace g60 : (fun (v : Value) (w : World) => ∃ (a1 : Option Addr) (c1 : Nat), v = .agg #[.int .i64 x.down.kind, .string x.down.text, .int .i64 x.down.int, .float .f64 x.down.real, .bool x.down.flag, .slice a1 x.down.list.length c1] /\ RV (As W4.heap.size w) (Ad x.down.kind x.down.text x.down.int x.down.real x.down.flag a1 x.down.list.length c1) x.down) v60 wx := g60
         dsimp only at g60
         obtain ⟨a1, c1, rfl, h1⟩ := g60
         have hal := (Below.refl wx.heap.size wx).alloc (Nat.le_refl _) (.cells #[.int .i64 x.down.kind, .string x.down.text, .int .i64 x.down.int, .float .f64 x.down.real, .bool x.down.flag, .slice a1 x.down.list.length c1] 26)
         exact Ac (u := .slice (some ⟨wx.heap.size, 0, none⟩) 1 1) (w' := wx.alloc (.cells #[.int .i64 x.down.kind, .string x.down.text, .int .i64 x.down.int, .float .f64 x.down.real, .bool x.down.flag, .slice a1 x.down.list.length c1] 26)) (by simp [go_sem, q60, Tryz.underlying24]) ⟨trivial, (Below.refl _ _).alloc (Nat.le_refl _) _, wx.heap.size, a1, c1, rfl, (MapKept.heap_alloc wx _).1, h1.mono (Aw hal)⟩
       · refine VC.plain rfl fun a wx hf => ?_
         obtain ⟨v58, g58, s58⟩ := hf.got 1 (by kernel_rfl) (by intro j hj; simp [eats] at hj) rfl rfl
         replace s58 := s58.trans (show v58 = .slice ae j ce from g58)
         clear g58
         have q58 := Ah s58
         obtain ⟨v61, g61, s61⟩ := hf.got 4 (by kernel_rfl) (by intro j hj; simp [eats] at hj; omega) rfl rfl
         have q61 := Ah s61
         replace g61 : (fun (v : Value) (w : World) => ∃ (b : Nat) (a1 : Option Addr) (c1 : Nat), v = .slice (some ⟨b, 0, none⟩) 1 1 /\ w.heap[b]? = some (.cells #[.int .i64 x.down.kind, .string x.down.text, .int .i64 x.down.int, .float .f64 x.down.real, .bool x.down.flag, .slice a1 x.down.list.length c1] 26 (0, 0)) /\ RV (As W4.heap.size w) (Ad x.down.kind x.down.text x.down.int x.down.real x.down.flag a1 x.down.list.length c1) x.down) v61 wx := g61
         dsimp only at g61
         have hI := hf.start (by kernel_rfl)
         obtain ⟨b, a1, c1, rfl, hbk, hrv⟩ := g61
         have hIs := hI.size
         have hown1 : wx.ownsRow (D + 1) 26 6 (.slice ae j ce) j css.flatten := Ba hrow (Fr.of_below hI) (fun k hk hle => by have := (Ae hrow k hk).2; omega)
         have hvs1 := hrvs.mono (Ci (B := D + 1) (own := (Value.slice ae j ce).ownBlock) hI)
         have hx1 := hrv.mono (C3 (B := D + 1) (own := (Value.slice ae j ce).ownBlock) hDs (fun k hk => (Ae hrow k hk).2))
         refine Cp rfl eVal s58 hown1 s61 (Co hbk rfl) (fun h => by cases h) (by simp [Value.oneCell']) hjn9 (by omega) (fun v' w' h1 h2 h3 => ?_)
         refine ⟨trivial, trivial, a1, c1, Fr.trans ((Fr.of_below hI).mono (fun i hi hle => absurd hle (by omega))) h2, ?_, (hvs1.snoc hx1).mono (D0 h2 h3)⟩
         simpa [Ad] using h1
       · refine VC.plain rfl fun a wx hf => ?_
         have s4 := hf.old 4 (by first | rfl | kernel_rfl)
         have q4 := Ah s4
         exact Ac (by simp [go_sem, q4]) ⟨hf.c, rfl, rfl⟩
       · refine VC.plain rfl fun a wx hf => ?_
         obtain ⟨v63, g63, s63⟩ := hf.got 6 (by kernel_rfl) (by intro j hj; simp [eats] at hj) rfl rfl
         replace s63 := s63.trans (show v63 = .pointer (some ⟨D, 5, none⟩) from g63)
         clear g63
         have q63 := Ah s63
         obtain ⟨v62, g62, s62⟩ := hf.got 5 (by kernel_rfl) (by intro j hj; simp [eats] at hj; omega) rfl rfl
         have q62 := Ah s62
         replace g62 : (fun (v : Value) (w : World) => DApp D W4 (.slice ae j ce) j css pre x.down v w) v62 wx := g62
         dsimp only at g62
         obtain ⟨a1, c1, h1, h2, h3⟩ := g62
         obtain ⟨a31, c31, rfl⟩ := (Reads.of_owns h2).shape
         exact Cw (w' := wx.setCell ⟨D, 5, none⟩ _) (by simp [go_sem, q62, q63, h1.cell (p := ⟨D, 5, none⟩) hc5 hDo, (hblk.fr h1 hDo).frz 5 none]) ⟨trivial, trivial, _, wx, rfl, a1, c1, h1, h2, h3⟩
     · intro vs w5 _ hG
       obtain ⟨v1, w6, e, a1, c1, g1, g2, g3⟩ := hG 7 (by decide) (by decide)
       clear hG
       subst e
       obtain ⟨a8, c8, rfl⟩ := (Reads.of_owns g2).shape
       obtain ⟨W9, hW9⟩ : ∃ W9, W9 = w6.setCell ⟨D, 5, none⟩ (.slice a8 (j + 1) c8) := ⟨_, rfl⟩
       have hfD : Fr (fun k => k = D) w6 W9 := by rw [hW9]; exact Fr.setCell (S := fun k => k = D) (Fr.refl _ _) (fun _ => rfl) _
       have hk0 : ∀ q u, q ≠ 5 -> W4.cell? ⟨D, q, none⟩ = some u -> W9.cell? ⟨D, q, none⟩ = some u := fun q u hq hu => by
         rw [hW9, Ai (fun e => hq (congrArg Addr.off e).symm)]; exact g1.cell hu hDo
       have hRn : W9.rangeAt D 0 [.int .i64 5, .string ⟨#[]⟩, .int .i64 0, .float .f64 0, .bool false, .slice a8 (j + 1) c8] :=
         A9 (hk0 _ _ (by omega) (by simpa using hrD 0 _ rfl)) (hk0 _ _ (by omega) (by simpa using hrD 1 _ rfl)) (hk0 _ _ (by omega) (by simpa using hrD 2 _ rfl)) (hk0 _ _ (by omega) (by simpa using hrD 3 _ rfl)) (hk0 _ _ (by omega) (by simpa using hrD 4 _ rfl)) (by rw [hW9]; exact Ap (g1.cell hc5 hDo))
       have hBn : Blk W9 D := by rw [hW9]; exact (hblk.fr g1 hDo).setCell _ _
       have hown9 : W9.ownsRow (D + 1) 26 6 (.slice a8 (j + 1) c8) (j + 1) (css ++ [Ad x.down.kind x.down.text x.down.int x.down.real x.down.flag a1 x.down.list.length c1]).flatten := by
         rw [List.flatten_append]
         simpa using Ba g2 hfD (fun k hk e => by have := (Ae g2 k hk).1; omega)
       have hvs9 := g3.mono (fun ad u h => let ⟨h1, h2, h3⟩ := B0 h; Dy (w := W9) (hfD.cell h1 (fun e => by omega)) h2 h3)
       have hs6 := g1.size
       have hs9 := hfD.size
       have hbn : Below D W2 W9 := hbel4.trans ((g1.below (by omega) (fun k hk e => by have := (Ae hrow k e).1; omega)).trans (hfD.below (by omega) (fun k hk e => by omega)))
       have hz9 : D + 1 <= W9.heap.size := by omega
       have e9 : (v.list.take (j + 1)).map V.down = pre ++ [x.down] := by rw [hts.out, List.map_append, hpre]; rfl
       rw [<- e9] at hvs9
       rw [<- hW9]
       replace hW9 := Hd hW9
       replace hRn := Hd hRn
       replace hBn := Hd hBn
       replace hown9 := Hd hown9
       replace hvs9 := Hd hvs9
       replace hbn := Hd hbn
       clear hk0 g1 g2 g3 hfD hc5 hDo hrow hrvs hblk hih hrD hr6 hs6 hs9 hbel4 hlv4 hbw d0 d1 d2 d3 d4 d5
       simp only [putFrom, Act.put, List.setIfInBounds_toArray, List.set_cons_zero, List.set_cons_succ]
       go_wp2_with fail
       go_roundw
       case rel => exact ⟨j + 1, _, _, by omega, by go_num, hown9.out, hvs9.out, hRn.out, hBn.out, hbn.out, hz9⟩
       case measure => simp [intOf]; omega
   · obtain rfl : j = n := by omega
     have hjl : (v.list.take j).map V.down = v.list.map V.down := by rw [List.take_of_length_le (by rw [<- en.out]; exact Nat.le_refl _)]
     rw [hjl] at hrs
     obtain ⟨a3, c3, rfl⟩ := (Reads.of_owns hown).shape
     have hbel2 : Below W2.heap.size W2 wr := by rw [hD.out]; exact hbel
     have htC := A0 (n := 6) (Ab hbel2 hrC.out) (hfC.out.of_block (hbel.block _ hcl)) rfl
     have hfin : Fr (fun k => k = w.heap.size + 1) wr (wr.setCells (w.heap.size + 1) 0 [.int .i64 5, .string ⟨#[]⟩, .int .i64 0, .float .f64 0, .bool false, .slice a3 j c3]) := Fr.setCells (S := fun k => k = w.heap.size + 1) (fun _ => rfl) _ _ _ (Fr.refl _ wr)
     have hrR : (wr.setCells (w.heap.size + 1) 0 [.int .i64 5, .string ⟨#[]⟩, .int .i64 0, .float .f64 0, .bool false, .slice a3 j c3]).rangeAt (w.heap.size + 1) 0 [.int .i64 5, .string ⟨#[]⟩, .int .i64 0, .float .f64 0, .bool false, .slice a3 j c3] := World.rangeAt_setCells_same _ _ _ _ htC
     replace hown := Hd hown
     replace hrs := Hd hrs
     replace hr := Hd hr
     replace htC := Hd htC
     replace hrR := Hd hrR
     replace hfin := Hd hfin
     replace hbel := Hd hbel
     clear hbel2
     go_wp2_with (first
       | (refine wpList_load_mid rfl 26 _ rfl D 0 rfl _ _ hr.out Tryz.underlying26 rfl Af ?_)
       | (refine wpList_store_mid rfl 26 _ _ rfl (w.heap.size + 1) 0 _ rfl rfl htC.out Af (one6 _ _ _ _ _ _ _ _) ?_))
     refine bodyPost_ret (Am (v := .agg #[.int .i64 5, .string ⟨#[]⟩, .int .i64 0, .float .f64 0, .bool false, .slice a3 j c3]) rfl rfl (run_loadVar_mid (P := Tryz.prog) _ _ 0 26 _ _ hrR.out Tryz.underlying26 rfl Af)) rfl ?_
     have hll : (v.list.map V.down).length = j := by rw [List.length_map, <- en.out]
     have hrv := RV.of_row (v := .mk 5 ⟨#[]⟩ 0 0 false (v.list.map V.down)) hll.symm (Ba hown.out hfin.out (fun q hq e => by have := (Ae hown.out q hq).1; omega)) ((hrs.out.mono (fun ad u h => let ⟨h1, h2, h3⟩ := B0 h; Dy (hfin.out.cell h1 (fun e => by omega)) h2 h3)).mono Eh)
     refine ⟨a3, c3, ?_, ?_, (hb2.out.trans (hbel.out.mono (by omega))).trans (hfin.out.below (by have := hbel.out.size; omega) (fun q hq e => by omega))⟩
     · rw [hdn.out]
       show _ = Ending.returned (.agg #[.int .i64 5, .string ⟨#[]⟩, .int .i64 0, .float .f64 0, .bool false, .slice a3 (v.list.map V.down).length c3])
       rw [hll]
     · rw [hdn.out]
       show RV _ (Ad 5 ⟨#[]⟩ 0 0 false a3 (v.list.map V.down).length c3) _
       rw [hll]
       exact hrv.mono (Bm (by omega))
set_option maxRecDepth 100000 in
set_option maxHeartbeats 6400000 in
theorem down_12 {v : V} (ih : DownIH v) {t : ByteArray} {i : Int} {r : Nat} {f : Bool} {a : Option Addr} {n cap : Nat} {d : Int} {w : World} (hp : DownH v 12 t i r f a n cap d w) :
   Calls Tryz.prog 31 #[.agg #[.int .i64 12, .string t, .int .i64 i, .float .f64 r, .bool f, .slice a n cap]] w (Bx v w) := by
 replace ih := Hd ih
 obtain ⟨ek, et, ei, er, ef, en⟩ := hp.val.len
 have hra := (V.ranged_eq v).1 hp.ranged
 have hLv := hp.laid
 obtain ⟨W2, hW2⟩ : ∃ W2, W2 = (w.alloc (.cells #[.int .i64 12, .string t, .int .i64 i, .float .f64 r, .bool f, .slice a n cap] 26)).alloc (.cells #[.int .i64 0, .string ⟨#[]⟩, .int .i64 0, .float .f64 0, .bool false, .slice none 0 0] 26) := ⟨_, rfl⟩
 have hb2 : Below w.heap.size w W2 := by rw [hW2]; exact ((Below.refl _ _).alloc (Nat.le_refl _) _).alloc (by simp) _
 have hs2 : W2.heap.size = w.heap.size + 2 := by rw [hW2]; simp
 have hB : ∀ q u, #[.int .i64 12, .string t, .int .i64 i, .float .f64 r, .bool f, .slice a n cap][q]? = some u -> W2.cell? ⟨w.heap.size, q, none⟩ = some u := fun q u h => by rw [hW2, World.cell?_alloc_past _ _ _ (by simp), World.cell?_alloc_new]; exact h
 have hrC : W2.rangeAt (w.heap.size + 1) 0 [.int .i64 0, .string ⟨#[]⟩, .int .i64 0, .float .f64 0, .bool false, .slice none 0 0] := fun q u h => by
   rw [Nat.zero_add, hW2, show w.heap.size + 1 = (w.alloc (.cells #[.int .i64 12, .string t, .int .i64 i, .float .f64 r, .bool f, .slice a n cap] 26)).heap.size by simp, World.cell?_alloc_new]; simpa using h
 have hfC : Blk W2 (w.heap.size + 1) := by rw [hW2, show w.heap.size + 1 = (w.alloc (.cells #[.int .i64 12, .string t, .int .i64 i, .float .f64 r, .bool f, .slice a n cap] 26)).heap.size by simp]; exact Blk.new _ _ _
 have hcl := hfC.lt
 have e0 := hB 0 _ rfl
 have e1 := hB 1 _ rfl
 have e2 := hB 2 _ rfl
 have e3 := hB 3 _ rfl
 have e4 := hB 4 _ rfl
 have e5 := hB 5 _ rfl
 clear hB
 replace hW2 := Hd hW2
 replace hb2 := Hd hb2
 replace hs2 := Hd hs2
 replace hrC := Hd hrC
 replace hfC := Hd hfC
 replace ek := Hd ek
 replace et := Hd et
 replace ei := Hd ei
 replace er := Hd er
 replace ef := Hd ef
 replace en := Hd en
 replace hra := Hd hra
 replace hLv := Hd hLv
 replace hp := Hd hp
 go_enter Tryz.func31, Tryz.ntmps31
 go_upto_region 1 with fail
 rw [<- hW2.out]
 have hdn : v.down = .mk 5 ⟨#[]⟩ 0 0 false (v.list.map V.down) := by rw [V.down_eq, <- ek.out]; rfl
 have hfe := hp.out.fine
 rw [V.fine_eq, Bool.and_eq_true] at hfe
 have hn9 : n <= 100000 := by
   have h1 := hp.out.count
   have h2 := V.length_le v.list
   have h3 := v.count_eq
   have h4 := en.out
   omega
 replace hdn := Hd hdn
 replace hfe := Hd hfe
 obtain ⟨W3, hW3⟩ : ∃ W3, W3 = W2.alloc (.cells #[.int .i64 5, .string ⟨#[]⟩, .int .i64 0, .float .f64 0, .bool false, .slice none 0 0] 26) := ⟨_, rfl⟩
 obtain ⟨D, hD⟩ : ∃ D, W2.heap.size = D := ⟨_, rfl⟩
 have hb3 : Below D W2 W3 := by rw [hW3, <- hD]; exact (Below.refl _ _).alloc (Nat.le_refl _) _
 have hrg : W3.rangeAt D 0 [.int .i64 5, .string ⟨#[]⟩, .int .i64 0, .float .f64 0, .bool false, .slice none 0 0] := by
   rw [hW3, <- hD]; intro q u hq; rw [Nat.zero_add, World.cell?_alloc_new]; simpa using hq
 have hbk : Blk W3 D := by rw [hW3, <- hD]; exact Blk.new _ _ _
 have hs3 : W3.heap.size = D + 1 := by rw [hW3, <- hD]; simp
 have e5' : (W2.alloc (.cells #[.int .i64 5, .string ⟨#[]⟩, .int .i64 0, .float .f64 0, .bool false, .slice none 0 0] 26)).cell? ⟨w.heap.size, 5, none⟩ = some (.slice a n cap) := by
   rw [<- hW3]; exact (hb3.cell (show w.heap.size < D by have := hs2.out; omega)).trans e5
 replace hW3 := Hd hW3
 replace hb3 := Hd hb3
 replace hrg := Hd hrg
 replace hbk := Hd hbk
 replace hs3 := Hd hs3
 replace hD := Hd hD
 clear e1 e2 e3 e4
 go_wp2_with fail
 rw [<- hW3.out, hD.out]
 rw [hD.out] at hcl
 have hs2' := hs2.out
 rw [hD.out] at hs2'
 go_loopw [53] (fun q wr => ∃ (j : Nat) (lv : Value) (css : List (List Value)), j <= n /\ q = .int .i64 j /\ wr.ownsRow (D + 1) 26 6 lv j css.flatten /\ RVs (nf (D + 1) lv.ownBlock wr) css ((v.list.take j).map V.down) /\
     wr.rangeAt D 0 [.int .i64 5, .string ⟨#[]⟩, .int .i64 0, .float .f64 0, .bool false, lv] /\ Blk wr D /\ Below D W2 wr /\ D + 1 <= wr.heap.size) (fun q _ => n - (intOf q).toNat)
 case atStart => exact ⟨0, _, [], Nat.zero_le _, rfl, World.ownsRow_nil _ _ _ _, RVs.nil _, hrg.out, hbk.out, hb3.out, by have := hs3.out; omega⟩
 case round =>
   obtain ⟨j, lv, css, hj, rfl, hown, hrs, hr, hk, hbel, hsz⟩ := hrel
   clear hrg hbk hb3 hs3 e0 e5 e5'
   have hbw : Below w.heap.size w wr := hb2.out.trans (hbel.mono (by omega))
   by_cases hlt : j < n
   · have hlti : (j : Int) < (n : Int) := by omega
     have hvw := hp.out.val.mono (Aa hbw)
     rw [show Ad 12 t i r f a n cap = Ad v.kind v.text v.int v.real v.flag a n cap by rw [<- ek.out, <- et.out, <- ei.out, <- er.out, <- ef.out]] at hvw
     obtain ⟨x, bb, o, ax, cx, hxj, hmem, rfl, hx, d0, d1, d2, d3, d4, d5⟩ := hvw.elem' hlt
     have hts : v.list.take (j + 1) = v.list.take j ++ [x] := by
       obtain ⟨h1, h2⟩ := List.getElem?_eq_some_iff.1 hxj
       rw [List.take_succ_eq_append_getElem h1, h2]
     obtain ⟨ae, ce, rfl⟩ := (Reads.of_owns hown).shape
     obtain ⟨W4, hW4⟩ : ∃ W4, W4 = wr.alloc (.cells #[.int .i64 x.kind, .string x.text, .int .i64 x.int, .float .f64 x.real, .bool x.flag, .slice ax x.list.length cx] 26) := ⟨_, rfl⟩
     have hb4 : Below wr.heap.size wr W4 := by rw [hW4]; exact (Below.refl _ _).alloc (Nat.le_refl _) _
     have hs4 : W4.heap.size = wr.heap.size + 1 := by rw [hW4]; simp
     have hr6 : W4.rangeAt wr.heap.size 0 [.int .i64 x.kind, .string x.text, .int .i64 x.int, .float .f64 x.real, .bool x.flag, .slice ax x.list.length cx] := by
       rw [hW4]; intro q u hq; rw [Nat.zero_add, World.cell?_alloc_new]; simpa using hq
     have hrow := Ba hown (Fr.of_below hb4) (fun k hk hle => by have := (Ae hown k hk).2; omega)
     have hrvs := hrs.mono (Ci (B := D + 1) (own := (Value.slice ae j ce).ownBlock) hb4)
     have hrD := Ab hb4 hr
     have hblk := hk.of_block (hb4.block D (by omega))
     have hc5 : W4.cell? ⟨D, 5, none⟩ = some (.slice ae j ce) := by have := hrD 5 _ rfl; simpa using this
     have hDl : D < W4.heap.size := by omega
     have hDs : D + 1 <= W4.heap.size := by omega
     have hDo : ¬ (Value.slice ae j ce).ownBlock = some D := fun e => by have := (Ae hrow D e).1; omega
     have hbel4 : Below D W2 W4 := hbel.trans (hb4.mono (by omega))
     have hlv4 : LaidV W4.heap.size W4 := ((hLv.out.below (hbw.trans (hb4.mono hbw.size)) (Nat.le_refl _)).mono (by have := hbw.size; omega))
     have hih : ∀ wx, Below W4.heap.size W4 wx -> Calls Tryz.prog 31 #[.agg #[.int .i64 x.kind, .string x.text, .int .i64 x.int, .float .f64 x.real, .bool x.flag, .slice ax x.list.length cx]] wx (Bx x wx) := fun wx hI =>
       ih.out x hmem _ _ _ _ _ _ _ _ (d - 1) wx ⟨(hx.mono (Aa hb4)).mono (Aa hI), Bb hfe.out.2 x hmem, V.rangedL_mem hra.out.2.2.2 x hmem, by
         have h1 := V.count_mem hmem
         have h2 := hp.out.count
         have h3 := v.count_eq
         omega, (hlv4.below hI (Nat.le_refl _)).mono hI.size⟩
     have hjn9 : j + 1 < 1000000000 := by omega
     replace hW4 := Hd hW4
     replace hih := Hd hih
     replace hrow := Hd hrow
     replace hrvs := Hd hrvs
     replace hts := Hd hts
     clear hown hrs hr hk hbel hx hvw hb4
     replace hr6 := Hd hr6
     replace hrD := Hd hrD
     replace hc5 := Hd hc5
     go_upto_region 23 with fail
     rw [<- hW4.out]
     replace hih := hih.out
     replace hrow := hrow.out
     replace hrvs := hrvs.out
     replace hr6 := hr6.out
     replace hrD := hrD.out
     replace hc5 := hc5.out
     obtain ⟨pre, hpre⟩ : ∃ pre, pre = (v.list.take j).map V.down := ⟨_, rfl⟩
     rw [<- hpre] at hrvs
     refine wp_region_rely (l := [_, _, _, _, _, _, _, _]) (fun _ => True) (Below W4.heap.size W4) dlR (fun kG_ => ([fun v _ => v = .pointer (some ⟨D, 5, none⟩), fun v _ => v = .slice ae j ce, fun v _ => v = .agg #[.int .i64 x.kind, .string x.text, .int .i64 x.int, .float .f64 x.real, .bool x.flag, .slice ax x.list.length cx], fun v w => ∃ (a1 : Option Addr) (c1 : Nat), v = .agg #[.int .i64 x.down.kind, .string x.down.text, .int .i64 x.down.int, .float .f64 x.down.real, .bool x.down.flag, .slice a1 x.down.list.length c1] /\ RV (As W4.heap.size w) (Ad x.down.kind x.down.text x.down.int x.down.real x.down.flag a1 x.down.list.length c1) x.down, fun v w => ∃ (b : Nat) (a1 : Option Addr) (c1 : Nat), v = .slice (some ⟨b, 0, none⟩) 1 1 /\ w.heap[b]? = some (.cells #[.int .i64 x.down.kind, .string x.down.text, .int .i64 x.down.int, .float .f64 x.down.real, .bool x.down.flag, .slice a1 x.down.list.length c1] 26 (0, 0)) /\ RV (As W4.heap.size w) (Ad x.down.kind x.down.text x.down.int x.down.real x.down.flag a1 x.down.list.length c1) x.down, fun v w => DApp D W4 (.slice ae j ce) j css pre x.down v w, fun v _ => v = .pointer (some ⟨D, 5, none⟩), fun v w => ∃ (v1 : Value) (w1 : World), w = w1.setCell ⟨D, 5, none⟩ v1 /\ DApp D W4 (.slice ae j ce) j css pre x.down v1 w1] : List (Value -> World -> Prop)).getD kG_ (fun _ _ => True)) (eats [(4, 3), (5, 4), (7, 5)]) (isIn [5, 7]) (by kernel_rfl) (by kernel_rfl) (by kernel_rfl) trivial ((Below.refl _ _).drew) ?_ ?_ ?_ ?_
     · intro i kG_ u w w' hne hE hg hr
       rcases kG_ with _ | _ | _ | _ | _ | _ | _ | _ | kG_
       · exact hg
       · exact hg
       · exact hg
       · replace hg : (fun (v : Value) (w : World) => ∃ (a1 : Option Addr) (c1 : Nat), v = .agg #[.int .i64 x.down.kind, .string x.down.text, .int .i64 x.down.int, .float .f64 x.down.real, .bool x.down.flag, .slice a1 x.down.list.length c1] /\ RV (As W4.heap.size w) (Ad x.down.kind x.down.text x.down.int x.down.real x.down.flag a1 x.down.list.length c1) x.down) u w := hg
         show (fun (v : Value) (w : World) => ∃ (a1 : Option Addr) (c1 : Nat), v = .agg #[.int .i64 x.down.kind, .string x.down.text, .int .i64 x.down.int, .float .f64 x.down.real, .bool x.down.flag, .slice a1 x.down.list.length c1] /\ RV (As W4.heap.size w) (Ad x.down.kind x.down.text x.down.int x.down.real x.down.flag a1 x.down.list.length c1) x.down) u w'
         dsimp only at hg ⊢
         replace hE : exB _ _ i 3 = false := hE
         replace hne : 3 ≠ i := hne
         unfold dlR at hr
         split at hr
         all_goals first
           | exact absurd rfl hne
           | exact absurd (hE.symm.trans (by decide +kernel : exB _ _ _ _ = true)) (by decide)
           | (subst hr; exact hg)
           | ((obtain ⟨a1, c1, h1, h2⟩ := hg; exact ⟨a1, c1, h1, h2.mono (Aw hr)⟩))
       · replace hg : (fun (v : Value) (w : World) => ∃ (b : Nat) (a1 : Option Addr) (c1 : Nat), v = .slice (some ⟨b, 0, none⟩) 1 1 /\ w.heap[b]? = some (.cells #[.int .i64 x.down.kind, .string x.down.text, .int .i64 x.down.int, .float .f64 x.down.real, .bool x.down.flag, .slice a1 x.down.list.length c1] 26 (0, 0)) /\ RV (As W4.heap.size w) (Ad x.down.kind x.down.text x.down.int x.down.real x.down.flag a1 x.down.list.length c1) x.down) u w := hg
         show (fun (v : Value) (w : World) => ∃ (b : Nat) (a1 : Option Addr) (c1 : Nat), v = .slice (some ⟨b, 0, none⟩) 1 1 /\ w.heap[b]? = some (.cells #[.int .i64 x.down.kind, .string x.down.text, .int .i64 x.down.int, .float .f64 x.down.real, .bool x.down.flag, .slice a1 x.down.list.length c1] 26 (0, 0)) /\ RV (As W4.heap.size w) (Ad x.down.kind x.down.text x.down.int x.down.real x.down.flag a1 x.down.list.length c1) x.down) u w'
         dsimp only at hg ⊢
         replace hE : exB _ _ i 4 = false := hE
         replace hne : 4 ≠ i := hne
         unfold dlR at hr
         split at hr
         all_goals first
           | exact absurd rfl hne
           | exact absurd (hE.symm.trans (by decide +kernel : exB _ _ _ _ = true)) (by decide)
           | (subst hr; exact hg)
           | ((obtain ⟨b, a1, c1, h1, h2, h3⟩ := hg; exact ⟨b, a1, c1, h1, (hr.block b (Array.getElem?_eq_some_iff.1 h2).1).trans h2, h3.mono (Aw hr)⟩))
       · replace hg : (fun (v : Value) (w : World) => DApp D W4 (.slice ae j ce) j css pre x.down v w) u w := hg
         show (fun (v : Value) (w : World) => DApp D W4 (.slice ae j ce) j css pre x.down v w) u w'
         dsimp only at hg ⊢
         replace hE : exB _ _ i 5 = false := hE
         replace hne : 5 ≠ i := hne
         unfold dlR at hr
         split at hr
         all_goals first
           | exact absurd rfl hne
           | exact absurd (hE.symm.trans (by decide +kernel : exB _ _ _ _ = true)) (by decide)
           | (subst hr; exact hg)
           | (fail)
       · exact hg
       · replace hg : (fun (v : Value) (w : World) => ∃ (v1 : Value) (w1 : World), w = w1.setCell ⟨D, 5, none⟩ v1 /\ DApp D W4 (.slice ae j ce) j css pre x.down v1 w1) u w := hg
         show (fun (v : Value) (w : World) => ∃ (v1 : Value) (w1 : World), w = w1.setCell ⟨D, 5, none⟩ v1 /\ DApp D W4 (.slice ae j ce) j css pre x.down v1 w1) u w'
         dsimp only at hg ⊢
         replace hE : exB _ _ i 7 = false := hE
         replace hne : 7 ≠ i := hne
         unfold dlR at hr
         split at hr
         all_goals first
           | exact absurd rfl hne
           | exact absurd (hE.symm.trans (by decide +kernel : exB _ _ _ _ = true)) (by decide)
           | (subst hr; exact hg)
           | (fail)
       · trivial
     · intro jj w6 w7 hF hI hr
       unfold dlR at hr
       split at hr
       · exact hI.trans (hr.mono hI.size)
       · exact hI.trans (hr.mono hI.size)
       · exact absurd hF (by decide)
       · exact absurd hF (by decide)
       · subst hr; exact hI
     · refine ⟨?_, ?_, ?_, ?_, ?_, ?_, ?_, ?_, trivial⟩
       · refine VC.plain rfl fun a wx hf => ?_
         have s4 := hf.old 4 (by first | rfl | kernel_rfl)
         have q4 := Ah s4
         exact Ac (by simp [go_sem, q4]) ⟨hf.c, rfl, rfl⟩
       · refine VC.plain rfl fun a wx hf => ?_
         obtain ⟨v57, g57, s57⟩ := hf.got 0 (by kernel_rfl) (by intro j hj; simp [eats] at hj) rfl rfl
         replace s57 := s57.trans (show v57 = .pointer (some ⟨D, 5, none⟩) from g57)
         clear g57
         have q57 := Ah s57
         have hI := hf.start (by kernel_rfl)
         exact Ac (by simp [go_sem, q57, hI.cell (p := ⟨D, 5, none⟩) hDl, hc5]) ⟨trivial, rfl, rfl⟩
       · refine VC.plain rfl fun a wx hf => ?_
         have s6 := hf.old 6 (by first | rfl | kernel_rfl)
         have q6 := Ah s6
         have hI := hf.start (by kernel_rfl)
         exact Bo rfl s6 (Ab hI hr6) Tryz.underlying26 rfl Af ⟨trivial, rfl, rfl⟩
       · refine VC.plain rfl fun a wx hf => ?_
         obtain ⟨v59, g59, s59⟩ := hf.got 2 (by kernel_rfl) (by intro j hj; simp [eats] at hj) rfl rfl
         replace s59 := s59.trans (show v59 = .agg #[.int .i64 x.kind, .string x.text, .int .i64 x.int, .float .f64 x.real, .bool x.flag, .slice ax x.list.length cx] from g59)
         clear g59
         have q59 := Ah s59
         have hI := hf.start (by kernel_rfl)
         exact Bk (f := 31) (args := #[.agg #[.int .i64 x.kind, .string x.text, .int .i64 x.int, .float .f64 x.real, .bool x.flag, .slice ax x.list.length cx]]) (by simp [go_sem, q59]) ((hih wx hI).mono fun e w' ⟨a1, c1, he, h1, h2⟩ => ⟨_, he, trivial, h2, a1, c1, rfl, h1.mono (Bm hI.size)⟩)
       · refine VC.plain rfl fun a wx hf => ?_
         obtain ⟨v60, g60, s60⟩ := hf.got 3 (by kernel_rfl) (by intro j hj; simp [eats] at hj; omega) rfl rfl
         have q60 := Ah s60
         replace g60 : (fun (v : Value) (w : World) => ∃ (a1 : Option Addr) (c1 : Nat), v = .agg #[.int .i64 x.down.kind, .string x.down.text, .int .i64 x.down.int, .float .f64 x.down.real, .bool x.down.flag, .slice a1 x.down.list.length c1] /\ RV (As W4.heap.size w) (Ad x.down.kind x.down.text x.down.int x.down.real x.down.flag a1 x.down.list.length c1) x.down) v60 wx := g60
         dsimp only at g60
         obtain ⟨a1, c1, rfl, h1⟩ := g60
         have hal := (Below.refl wx.heap.size wx).alloc (Nat.le_refl _) (.cells #[.int .i64 x.down.kind, .string x.down.text, .int .i64 x.down.int, .float .f64 x.down.real, .bool x.down.flag, .slice a1 x.down.list.length c1] 26)
         exact Ac (u := .slice (some ⟨wx.heap.size, 0, none⟩) 1 1) (w' := wx.alloc (.cells #[.int .i64 x.down.kind, .string x.down.text, .int .i64 x.down.int, .float .f64 x.down.real, .bool x.down.flag, .slice a1 x.down.list.length c1] 26)) (by simp [go_sem, q60, Tryz.underlying24]) ⟨trivial, (Below.refl _ _).alloc (Nat.le_refl _) _, wx.heap.size, a1, c1, rfl, (MapKept.heap_alloc wx _).1, h1.mono (Aw hal)⟩
       · refine VC.plain rfl fun a wx hf => ?_
         obtain ⟨v58, g58, s58⟩ := hf.got 1 (by kernel_rfl) (by intro j hj; simp [eats] at hj) rfl rfl
         replace s58 := s58.trans (show v58 = .slice ae j ce from g58)
         clear g58
         have q58 := Ah s58
         obtain ⟨v61, g61, s61⟩ := hf.got 4 (by kernel_rfl) (by intro j hj; simp [eats] at hj; omega) rfl rfl
         have q61 := Ah s61
         replace g61 : (fun (v : Value) (w : World) => ∃ (b : Nat) (a1 : Option Addr) (c1 : Nat), v = .slice (some ⟨b, 0, none⟩) 1 1 /\ w.heap[b]? = some (.cells #[.int .i64 x.down.kind, .string x.down.text, .int .i64 x.down.int, .float .f64 x.down.real, .bool x.down.flag, .slice a1 x.down.list.length c1] 26 (0, 0)) /\ RV (As W4.heap.size w) (Ad x.down.kind x.down.text x.down.int x.down.real x.down.flag a1 x.down.list.length c1) x.down) v61 wx := g61
         dsimp only at g61
         have hI := hf.start (by kernel_rfl)
         obtain ⟨b, a1, c1, rfl, hbk, hrv⟩ := g61
         have hIs := hI.size
         have hown1 : wx.ownsRow (D + 1) 26 6 (.slice ae j ce) j css.flatten := Ba hrow (Fr.of_below hI) (fun k hk hle => by have := (Ae hrow k hk).2; omega)
         have hvs1 := hrvs.mono (Ci (B := D + 1) (own := (Value.slice ae j ce).ownBlock) hI)
         have hx1 := hrv.mono (C3 (B := D + 1) (own := (Value.slice ae j ce).ownBlock) hDs (fun k hk => (Ae hrow k hk).2))
         refine Cp rfl eVal s58 hown1 s61 (Co hbk rfl) (fun h => by cases h) (by simp [Value.oneCell']) hjn9 (by omega) (fun v' w' h1 h2 h3 => ?_)
         refine ⟨trivial, trivial, a1, c1, Fr.trans ((Fr.of_below hI).mono (fun i hi hle => absurd hle (by omega))) h2, ?_, (hvs1.snoc hx1).mono (D0 h2 h3)⟩
         simpa [Ad] using h1
       · refine VC.plain rfl fun a wx hf => ?_
         have s4 := hf.old 4 (by first | rfl | kernel_rfl)
         have q4 := Ah s4
         exact Ac (by simp [go_sem, q4]) ⟨hf.c, rfl, rfl⟩
       · refine VC.plain rfl fun a wx hf => ?_
         obtain ⟨v63, g63, s63⟩ := hf.got 6 (by kernel_rfl) (by intro j hj; simp [eats] at hj) rfl rfl
         replace s63 := s63.trans (show v63 = .pointer (some ⟨D, 5, none⟩) from g63)
         clear g63
         have q63 := Ah s63
         obtain ⟨v62, g62, s62⟩ := hf.got 5 (by kernel_rfl) (by intro j hj; simp [eats] at hj; omega) rfl rfl
         have q62 := Ah s62
         replace g62 : (fun (v : Value) (w : World) => DApp D W4 (.slice ae j ce) j css pre x.down v w) v62 wx := g62
         dsimp only at g62
         obtain ⟨a1, c1, h1, h2, h3⟩ := g62
         obtain ⟨a31, c31, rfl⟩ := (Reads.of_owns h2).shape
         exact Cw (w' := wx.setCell ⟨D, 5, none⟩ _) (by simp [go_sem, q62, q63, h1.cell (p := ⟨D, 5, none⟩) hc5 hDo, (hblk.fr h1 hDo).frz 5 none]) ⟨trivial, trivial, _, wx, rfl, a1, c1, h1, h2, h3⟩
     · intro vs w5 _ hG
       obtain ⟨v1, w6, e, a1, c1, g1, g2, g3⟩ := hG 7 (by decide) (by decide)
       clear hG
       subst e
       obtain ⟨a8, c8, rfl⟩ := (Reads.of_owns g2).shape
       obtain ⟨W9, hW9⟩ : ∃ W9, W9 = w6.setCell ⟨D, 5, none⟩ (.slice a8 (j + 1) c8) := ⟨_, rfl⟩
       have hfD : Fr (fun k => k = D) w6 W9 := by rw [hW9]; exact Fr.setCell (S := fun k => k = D) (Fr.refl _ _) (fun _ => rfl) _
       have hk0 : ∀ q u, q ≠ 5 -> W4.cell? ⟨D, q, none⟩ = some u -> W9.cell? ⟨D, q, none⟩ = some u := fun q u hq hu => by
         rw [hW9, Ai (fun e => hq (congrArg Addr.off e).symm)]; exact g1.cell hu hDo
       have hRn : W9.rangeAt D 0 [.int .i64 5, .string ⟨#[]⟩, .int .i64 0, .float .f64 0, .bool false, .slice a8 (j + 1) c8] :=
         A9 (hk0 _ _ (by omega) (by simpa using hrD 0 _ rfl)) (hk0 _ _ (by omega) (by simpa using hrD 1 _ rfl)) (hk0 _ _ (by omega) (by simpa using hrD 2 _ rfl)) (hk0 _ _ (by omega) (by simpa using hrD 3 _ rfl)) (hk0 _ _ (by omega) (by simpa using hrD 4 _ rfl)) (by rw [hW9]; exact Ap (g1.cell hc5 hDo))
       have hBn : Blk W9 D := by rw [hW9]; exact (hblk.fr g1 hDo).setCell _ _
       have hown9 : W9.ownsRow (D + 1) 26 6 (.slice a8 (j + 1) c8) (j + 1) (css ++ [Ad x.down.kind x.down.text x.down.int x.down.real x.down.flag a1 x.down.list.length c1]).flatten := by
         rw [List.flatten_append]
         simpa using Ba g2 hfD (fun k hk e => by have := (Ae g2 k hk).1; omega)
       have hvs9 := g3.mono (fun ad u h => let ⟨h1, h2, h3⟩ := B0 h; Dy (w := W9) (hfD.cell h1 (fun e => by omega)) h2 h3)
       have hs6 := g1.size
       have hs9 := hfD.size
       have hbn : Below D W2 W9 := hbel4.trans ((g1.below (by omega) (fun k hk e => by have := (Ae hrow k e).1; omega)).trans (hfD.below (by omega) (fun k hk e => by omega)))
       have hz9 : D + 1 <= W9.heap.size := by omega
       have e9 : (v.list.take (j + 1)).map V.down = pre ++ [x.down] := by rw [hts.out, List.map_append, hpre]; rfl
       rw [<- e9] at hvs9
       rw [<- hW9]
       replace hW9 := Hd hW9
       replace hRn := Hd hRn
       replace hBn := Hd hBn
       replace hown9 := Hd hown9
       replace hvs9 := Hd hvs9
       replace hbn := Hd hbn
       clear hk0 g1 g2 g3 hfD hc5 hDo hrow hrvs hblk hih hrD hr6 hs6 hs9 hbel4 hlv4 hbw d0 d1 d2 d3 d4 d5
       simp only [putFrom, Act.put, List.setIfInBounds_toArray, List.set_cons_zero, List.set_cons_succ]
       go_wp2_with fail
       go_roundw
       case rel => exact ⟨j + 1, _, _, by omega, by go_num, hown9.out, hvs9.out, hRn.out, hBn.out, hbn.out, hz9⟩
       case measure => simp [intOf]; omega
   · obtain rfl : j = n := by omega
     have hjl : (v.list.take j).map V.down = v.list.map V.down := by rw [List.take_of_length_le (by rw [<- en.out]; exact Nat.le_refl _)]
     rw [hjl] at hrs
     obtain ⟨a3, c3, rfl⟩ := (Reads.of_owns hown).shape
     have hbel2 : Below W2.heap.size W2 wr := by rw [hD.out]; exact hbel
     have htC := A0 (n := 6) (Ab hbel2 hrC.out) (hfC.out.of_block (hbel.block _ hcl)) rfl
     have hfin : Fr (fun k => k = w.heap.size + 1) wr (wr.setCells (w.heap.size + 1) 0 [.int .i64 5, .string ⟨#[]⟩, .int .i64 0, .float .f64 0, .bool false, .slice a3 j c3]) := Fr.setCells (S := fun k => k = w.heap.size + 1) (fun _ => rfl) _ _ _ (Fr.refl _ wr)
     have hrR : (wr.setCells (w.heap.size + 1) 0 [.int .i64 5, .string ⟨#[]⟩, .int .i64 0, .float .f64 0, .bool false, .slice a3 j c3]).rangeAt (w.heap.size + 1) 0 [.int .i64 5, .string ⟨#[]⟩, .int .i64 0, .float .f64 0, .bool false, .slice a3 j c3] := World.rangeAt_setCells_same _ _ _ _ htC
     replace hown := Hd hown
     replace hrs := Hd hrs
     replace hr := Hd hr
     replace htC := Hd htC
     replace hrR := Hd hrR
     replace hfin := Hd hfin
     replace hbel := Hd hbel
     clear hbel2
     go_wp2_with (first
       | (refine wpList_load_mid rfl 26 _ rfl D 0 rfl _ _ hr.out Tryz.underlying26 rfl Af ?_)
       | (refine wpList_store_mid rfl 26 _ _ rfl (w.heap.size + 1) 0 _ rfl rfl htC.out Af (one6 _ _ _ _ _ _ _ _) ?_))
     refine bodyPost_ret (Am (v := .agg #[.int .i64 5, .string ⟨#[]⟩, .int .i64 0, .float .f64 0, .bool false, .slice a3 j c3]) rfl rfl (run_loadVar_mid (P := Tryz.prog) _ _ 0 26 _ _ hrR.out Tryz.underlying26 rfl Af)) rfl ?_
     have hll : (v.list.map V.down).length = j := by rw [List.length_map, <- en.out]
     have hrv := RV.of_row (v := .mk 5 ⟨#[]⟩ 0 0 false (v.list.map V.down)) hll.symm (Ba hown.out hfin.out (fun q hq e => by have := (Ae hown.out q hq).1; omega)) ((hrs.out.mono (fun ad u h => let ⟨h1, h2, h3⟩ := B0 h; Dy (hfin.out.cell h1 (fun e => by omega)) h2 h3)).mono Eh)
     refine ⟨a3, c3, ?_, ?_, (hb2.out.trans (hbel.out.mono (by omega))).trans (hfin.out.below (by have := hbel.out.size; omega) (fun q hq e => by omega))⟩
     · rw [hdn.out]
       show _ = Ending.returned (.agg #[.int .i64 5, .string ⟨#[]⟩, .int .i64 0, .float .f64 0, .bool false, .slice a3 (v.list.map V.down).length c3])
       rw [hll]
     · rw [hdn.out]
       show RV _ (Ad 5 ⟨#[]⟩ 0 0 false a3 (v.list.map V.down).length c3) _
       rw [hll]
       exact hrv.mono (Bm (by omega))
set_option maxRecDepth 100000 in
set_option maxHeartbeats 6400000 in
theorem down_13 {v : V} (ih : DownIH v) {t : ByteArray} {i : Int} {r : Nat} {f : Bool} {a : Option Addr} {n cap : Nat} {d : Int} {w : World} (hp : DownH v 13 t i r f a n cap d w) :
   Calls Tryz.prog 31 #[.agg #[.int .i64 13, .string t, .int .i64 i, .float .f64 r, .bool f, .slice a n cap]] w (Bx v w) := by
 replace ih := Hd ih
 obtain ⟨ek, et, ei, er, ef, en⟩ := hp.val.len
 have hra := (V.ranged_eq v).1 hp.ranged
 have hLv := hp.laid
 obtain ⟨W2, hW2⟩ : ∃ W2, W2 = (w.alloc (.cells #[.int .i64 13, .string t, .int .i64 i, .float .f64 r, .bool f, .slice a n cap] 26)).alloc (.cells #[.int .i64 0, .string ⟨#[]⟩, .int .i64 0, .float .f64 0, .bool false, .slice none 0 0] 26) := ⟨_, rfl⟩
 have hb2 : Below w.heap.size w W2 := by rw [hW2]; exact ((Below.refl _ _).alloc (Nat.le_refl _) _).alloc (by simp) _
 have hs2 : W2.heap.size = w.heap.size + 2 := by rw [hW2]; simp
 have hB : ∀ q u, #[.int .i64 13, .string t, .int .i64 i, .float .f64 r, .bool f, .slice a n cap][q]? = some u -> W2.cell? ⟨w.heap.size, q, none⟩ = some u := fun q u h => by rw [hW2, World.cell?_alloc_past _ _ _ (by simp), World.cell?_alloc_new]; exact h
 have hrC : W2.rangeAt (w.heap.size + 1) 0 [.int .i64 0, .string ⟨#[]⟩, .int .i64 0, .float .f64 0, .bool false, .slice none 0 0] := fun q u h => by
   rw [Nat.zero_add, hW2, show w.heap.size + 1 = (w.alloc (.cells #[.int .i64 13, .string t, .int .i64 i, .float .f64 r, .bool f, .slice a n cap] 26)).heap.size by simp, World.cell?_alloc_new]; simpa using h
 have hfC : Blk W2 (w.heap.size + 1) := by rw [hW2, show w.heap.size + 1 = (w.alloc (.cells #[.int .i64 13, .string t, .int .i64 i, .float .f64 r, .bool f, .slice a n cap] 26)).heap.size by simp]; exact Blk.new _ _ _
 have hcl := hfC.lt
 have e0 := hB 0 _ rfl
 have e1 := hB 1 _ rfl
 have e2 := hB 2 _ rfl
 have e3 := hB 3 _ rfl
 have e4 := hB 4 _ rfl
 have e5 := hB 5 _ rfl
 clear hB
 replace hW2 := Hd hW2
 replace hb2 := Hd hb2
 replace hs2 := Hd hs2
 replace hrC := Hd hrC
 replace hfC := Hd hfC
 replace ek := Hd ek
 replace et := Hd et
 replace ei := Hd ei
 replace er := Hd er
 replace ef := Hd ef
 replace en := Hd en
 replace hra := Hd hra
 replace hLv := Hd hLv
 replace hp := Hd hp
 go_enter Tryz.func31, Tryz.ntmps31
 go_upto_region 1 with fail
 rw [<- hW2.out]
 have hdn : v.down = .mk 5 ⟨#[]⟩ 0 0 false (v.list.map V.down) := by rw [V.down_eq, <- ek.out]; rfl
 have hfe := hp.out.fine
 rw [V.fine_eq, Bool.and_eq_true] at hfe
 have hn9 : n <= 100000 := by
   have h1 := hp.out.count
   have h2 := V.length_le v.list
   have h3 := v.count_eq
   have h4 := en.out
   omega
 replace hdn := Hd hdn
 replace hfe := Hd hfe
 obtain ⟨W3, hW3⟩ : ∃ W3, W3 = W2.alloc (.cells #[.int .i64 5, .string ⟨#[]⟩, .int .i64 0, .float .f64 0, .bool false, .slice none 0 0] 26) := ⟨_, rfl⟩
 obtain ⟨D, hD⟩ : ∃ D, W2.heap.size = D := ⟨_, rfl⟩
 have hb3 : Below D W2 W3 := by rw [hW3, <- hD]; exact (Below.refl _ _).alloc (Nat.le_refl _) _
 have hrg : W3.rangeAt D 0 [.int .i64 5, .string ⟨#[]⟩, .int .i64 0, .float .f64 0, .bool false, .slice none 0 0] := by
   rw [hW3, <- hD]; intro q u hq; rw [Nat.zero_add, World.cell?_alloc_new]; simpa using hq
 have hbk : Blk W3 D := by rw [hW3, <- hD]; exact Blk.new _ _ _
 have hs3 : W3.heap.size = D + 1 := by rw [hW3, <- hD]; simp
 have e5' : (W2.alloc (.cells #[.int .i64 5, .string ⟨#[]⟩, .int .i64 0, .float .f64 0, .bool false, .slice none 0 0] 26)).cell? ⟨w.heap.size, 5, none⟩ = some (.slice a n cap) := by
   rw [<- hW3]; exact (hb3.cell (show w.heap.size < D by have := hs2.out; omega)).trans e5
 replace hW3 := Hd hW3
 replace hb3 := Hd hb3
 replace hrg := Hd hrg
 replace hbk := Hd hbk
 replace hs3 := Hd hs3
 replace hD := Hd hD
 clear e1 e2 e3 e4
 go_wp2_with fail
 rw [<- hW3.out, hD.out]
 rw [hD.out] at hcl
 have hs2' := hs2.out
 rw [hD.out] at hs2'
 go_loopw [53] (fun q wr => ∃ (j : Nat) (lv : Value) (css : List (List Value)), j <= n /\ q = .int .i64 j /\ wr.ownsRow (D + 1) 26 6 lv j css.flatten /\ RVs (nf (D + 1) lv.ownBlock wr) css ((v.list.take j).map V.down) /\
     wr.rangeAt D 0 [.int .i64 5, .string ⟨#[]⟩, .int .i64 0, .float .f64 0, .bool false, lv] /\ Blk wr D /\ Below D W2 wr /\ D + 1 <= wr.heap.size) (fun q _ => n - (intOf q).toNat)
 case atStart => exact ⟨0, _, [], Nat.zero_le _, rfl, World.ownsRow_nil _ _ _ _, RVs.nil _, hrg.out, hbk.out, hb3.out, by have := hs3.out; omega⟩
 case round =>
   obtain ⟨j, lv, css, hj, rfl, hown, hrs, hr, hk, hbel, hsz⟩ := hrel
   clear hrg hbk hb3 hs3 e0 e5 e5'
   have hbw : Below w.heap.size w wr := hb2.out.trans (hbel.mono (by omega))
   by_cases hlt : j < n
   · have hlti : (j : Int) < (n : Int) := by omega
     have hvw := hp.out.val.mono (Aa hbw)
     rw [show Ad 13 t i r f a n cap = Ad v.kind v.text v.int v.real v.flag a n cap by rw [<- ek.out, <- et.out, <- ei.out, <- er.out, <- ef.out]] at hvw
     obtain ⟨x, bb, o, ax, cx, hxj, hmem, rfl, hx, d0, d1, d2, d3, d4, d5⟩ := hvw.elem' hlt
     have hts : v.list.take (j + 1) = v.list.take j ++ [x] := by
       obtain ⟨h1, h2⟩ := List.getElem?_eq_some_iff.1 hxj
       rw [List.take_succ_eq_append_getElem h1, h2]
     obtain ⟨ae, ce, rfl⟩ := (Reads.of_owns hown).shape
     obtain ⟨W4, hW4⟩ : ∃ W4, W4 = wr.alloc (.cells #[.int .i64 x.kind, .string x.text, .int .i64 x.int, .float .f64 x.real, .bool x.flag, .slice ax x.list.length cx] 26) := ⟨_, rfl⟩
     have hb4 : Below wr.heap.size wr W4 := by rw [hW4]; exact (Below.refl _ _).alloc (Nat.le_refl _) _
     have hs4 : W4.heap.size = wr.heap.size + 1 := by rw [hW4]; simp
     have hr6 : W4.rangeAt wr.heap.size 0 [.int .i64 x.kind, .string x.text, .int .i64 x.int, .float .f64 x.real, .bool x.flag, .slice ax x.list.length cx] := by
       rw [hW4]; intro q u hq; rw [Nat.zero_add, World.cell?_alloc_new]; simpa using hq
     have hrow := Ba hown (Fr.of_below hb4) (fun k hk hle => by have := (Ae hown k hk).2; omega)
     have hrvs := hrs.mono (Ci (B := D + 1) (own := (Value.slice ae j ce).ownBlock) hb4)
     have hrD := Ab hb4 hr
     have hblk := hk.of_block (hb4.block D (by omega))
     have hc5 : W4.cell? ⟨D, 5, none⟩ = some (.slice ae j ce) := by have := hrD 5 _ rfl; simpa using this
     have hDl : D < W4.heap.size := by omega
     have hDs : D + 1 <= W4.heap.size := by omega
     have hDo : ¬ (Value.slice ae j ce).ownBlock = some D := fun e => by have := (Ae hrow D e).1; omega
     have hbel4 : Below D W2 W4 := hbel.trans (hb4.mono (by omega))
     have hlv4 : LaidV W4.heap.size W4 := ((hLv.out.below (hbw.trans (hb4.mono hbw.size)) (Nat.le_refl _)).mono (by have := hbw.size; omega))
     have hih : ∀ wx, Below W4.heap.size W4 wx -> Calls Tryz.prog 31 #[.agg #[.int .i64 x.kind, .string x.text, .int .i64 x.int, .float .f64 x.real, .bool x.flag, .slice ax x.list.length cx]] wx (Bx x wx) := fun wx hI =>
       ih.out x hmem _ _ _ _ _ _ _ _ (d - 1) wx ⟨(hx.mono (Aa hb4)).mono (Aa hI), Bb hfe.out.2 x hmem, V.rangedL_mem hra.out.2.2.2 x hmem, by
         have h1 := V.count_mem hmem
         have h2 := hp.out.count
         have h3 := v.count_eq
         omega, (hlv4.below hI (Nat.le_refl _)).mono hI.size⟩
     have hjn9 : j + 1 < 1000000000 := by omega
     replace hW4 := Hd hW4
     replace hih := Hd hih
     replace hrow := Hd hrow
     replace hrvs := Hd hrvs
     replace hts := Hd hts
     clear hown hrs hr hk hbel hx hvw hb4
     replace hr6 := Hd hr6
     replace hrD := Hd hrD
     replace hc5 := Hd hc5
     go_upto_region 23 with fail
     rw [<- hW4.out]
     replace hih := hih.out
     replace hrow := hrow.out
     replace hrvs := hrvs.out
     replace hr6 := hr6.out
     replace hrD := hrD.out
     replace hc5 := hc5.out
     obtain ⟨pre, hpre⟩ : ∃ pre, pre = (v.list.take j).map V.down := ⟨_, rfl⟩
     rw [<- hpre] at hrvs
     refine wp_region_rely (l := [_, _, _, _, _, _, _, _]) (fun _ => True) (Below W4.heap.size W4) dlR (fun kG_ => ([fun v _ => v = .pointer (some ⟨D, 5, none⟩), fun v _ => v = .slice ae j ce, fun v _ => v = .agg #[.int .i64 x.kind, .string x.text, .int .i64 x.int, .float .f64 x.real, .bool x.flag, .slice ax x.list.length cx], fun v w => ∃ (a1 : Option Addr) (c1 : Nat), v = .agg #[.int .i64 x.down.kind, .string x.down.text, .int .i64 x.down.int, .float .f64 x.down.real, .bool x.down.flag, .slice a1 x.down.list.length c1] /\ RV (As W4.heap.size w) (Ad x.down.kind x.down.text x.down.int x.down.real x.down.flag a1 x.down.list.length c1) x.down, fun v w => ∃ (b : Nat) (a1 : Option Addr) (c1 : Nat), v = .slice (some ⟨b, 0, none⟩) 1 1 /\ w.heap[b]? = some (.cells #[.int .i64 x.down.kind, .string x.down.text, .int .i64 x.down.int, .float .f64 x.down.real, .bool x.down.flag, .slice a1 x.down.list.length c1] 26 (0, 0)) /\ RV (As W4.heap.size w) (Ad x.down.kind x.down.text x.down.int x.down.real x.down.flag a1 x.down.list.length c1) x.down, fun v w => DApp D W4 (.slice ae j ce) j css pre x.down v w, fun v _ => v = .pointer (some ⟨D, 5, none⟩), fun v w => ∃ (v1 : Value) (w1 : World), w = w1.setCell ⟨D, 5, none⟩ v1 /\ DApp D W4 (.slice ae j ce) j css pre x.down v1 w1] : List (Value -> World -> Prop)).getD kG_ (fun _ _ => True)) (eats [(4, 3), (5, 4), (7, 5)]) (isIn [5, 7]) (by kernel_rfl) (by kernel_rfl) (by kernel_rfl) trivial ((Below.refl _ _).drew) ?_ ?_ ?_ ?_
     · intro i kG_ u w w' hne hE hg hr
       rcases kG_ with _ | _ | _ | _ | _ | _ | _ | _ | kG_
       · exact hg
       · exact hg
       · exact hg
       · replace hg : (fun (v : Value) (w : World) => ∃ (a1 : Option Addr) (c1 : Nat), v = .agg #[.int .i64 x.down.kind, .string x.down.text, .int .i64 x.down.int, .float .f64 x.down.real, .bool x.down.flag, .slice a1 x.down.list.length c1] /\ RV (As W4.heap.size w) (Ad x.down.kind x.down.text x.down.int x.down.real x.down.flag a1 x.down.list.length c1) x.down) u w := hg
         show (fun (v : Value) (w : World) => ∃ (a1 : Option Addr) (c1 : Nat), v = .agg #[.int .i64 x.down.kind, .string x.down.text, .int .i64 x.down.int, .float .f64 x.down.real, .bool x.down.flag, .slice a1 x.down.list.length c1] /\ RV (As W4.heap.size w) (Ad x.down.kind x.down.text x.down.int x.down.real x.down.flag a1 x.down.list.length c1) x.down) u w'
         dsimp only at hg ⊢
         replace hE : exB _ _ i 3 = false := hE
         replace hne : 3 ≠ i := hne
         unfold dlR at hr
         split at hr
         all_goals first
           | exact absurd rfl hne
           | exact absurd (hE.symm.trans (by decide +kernel : exB _ _ _ _ = true)) (by decide)
           | (subst hr; exact hg)
           | ((obtain ⟨a1, c1, h1, h2⟩ := hg; exact ⟨a1, c1, h1, h2.mono (Aw hr)⟩))
       · replace hg : (fun (v : Value) (w : World) => ∃ (b : Nat) (a1 : Option Addr) (c1 : Nat), v = .slice (some ⟨b, 0, none⟩) 1 1 /\ w.heap[b]? = some (.cells #[.int .i64 x.down.kind, .string x.down.text, .int .i64 x.down.int, .float .f64 x.down.real, .bool x.down.flag, .slice a1 x.down.list.length c1] 26 (0, 0)) /\ RV (As W4.heap.size w) (Ad x.down.kind x.down.text x.down.int x.down.real x.down.flag a1 x.down.list.length c1) x.down) u w := hg
         show (fun (v : Value) (w : World) => ∃ (b : Nat) (a1 : Option Addr) (c1 : Nat), v = .slice (some ⟨b, 0, none⟩) 1 1 /\ w.heap[b]? = some (.cells #[.int .i64 x.down.kind, .string x.down.text, .int .i64 x.down.int, .float .f64 x.down.real, .bool x.down.flag, .slice a1 x.down.list.length c1] 26 (0, 0)) /\ RV (As W4.heap.size w) (Ad x.down.kind x.down.text x.down.int x.down.real x.down.flag a1 x.down.list.length c1) x.down) u w'
         dsimp only at hg ⊢
         replace hE : exB _ _ i 4 = false := hE
         replace hne : 4 ≠ i := hne
         unfold dlR at hr
         split at hr
         all_goals first
           | exact absurd rfl hne
           | exact absurd (hE.symm.trans (by decide +kernel : exB _ _ _ _ = true)) (by decide)
           | (subst hr; exact hg)
           | ((obtain ⟨b, a1, c1, h1, h2, h3⟩ := hg; exact ⟨b, a1, c1, h1, (hr.block b (Array.getElem?_eq_some_iff.1 h2).1).trans h2, h3.mono (Aw hr)⟩))
       · replace hg : (fun (v : Value) (w : World) => DApp D W4 (.slice ae j ce) j css pre x.down v w) u w := hg
         show (fun (v : Value) (w : World) => DApp D W4 (.slice ae j ce) j css pre x.down v w) u w'
         dsimp only at hg ⊢
         replace hE : exB _ _ i 5 = false := hE
         replace hne : 5 ≠ i := hne
         unfold dlR at hr
         split at hr
         all_goals first
           | exact absurd rfl hne
           | exact absurd (hE.symm.trans (by decide +kernel : exB _ _ _ _ = true)) (by decide)
           | (subst hr; exact hg)
           | (fail)
       · exact hg
       · replace hg : (fun (v : Value) (w : World) => ∃ (v1 : Value) (w1 : World), w = w1.setCell ⟨D, 5, none⟩ v1 /\ DApp D W4 (.slice ae j ce) j css pre x.down v1 w1) u w := hg
         show (fun (v : Value) (w : World) => ∃ (v1 : Value) (w1 : World), w = w1.setCell ⟨D, 5, none⟩ v1 /\ DApp D W4 (.slice ae j ce) j css pre x.down v1 w1) u w'
         dsimp only at hg ⊢
         replace hE : exB _ _ i 7 = false := hE
         replace hne : 7 ≠ i := hne
         unfold dlR at hr
         split at hr
         all_goals first
           | exact absurd rfl hne
           | exact absurd (hE.symm.trans (by decide +kernel : exB _ _ _ _ = true)) (by decide)
           | (subst hr; exact hg)
           | (fail)
       · trivial
     · intro jj w6 w7 hF hI hr
       unfold dlR at hr
       split at hr
       · exact hI.trans (hr.mono hI.size)
       · exact hI.trans (hr.mono hI.size)
       · exact absurd hF (by decide)
       · exact absurd hF (by decide)
       · subst hr; exact hI
     · refine ⟨?_, ?_, ?_, ?_, ?_, ?_, ?_, ?_, trivial⟩
       · refine VC.plain rfl fun a wx hf => ?_
         have s4 := hf.old 4 (by first | rfl | kernel_rfl)
         have q4 := Ah s4
         exact Ac (by simp [go_sem, q4]) ⟨hf.c, rfl, rfl⟩
       · refine VC.plain rfl fun a wx hf => ?_
         obtain ⟨v57, g57, s57⟩ := hf.got 0 (by kernel_rfl) (by intro j hj; simp [eats] at hj) rfl rfl
         replace s57 := s57.trans (show v57 = .pointer (some ⟨D, 5, none⟩) from g57)
         clear g57
         have q57 := Ah s57
         have hI := hf.start (by kernel_rfl)
         exact Ac (by simp [go_sem, q57, hI.cell (p := ⟨D, 5, none⟩) hDl, hc5]) ⟨trivial, rfl, rfl⟩
       · refine VC.plain rfl fun a wx hf => ?_
         have s6 := hf.old 6 (by first | rfl | kernel_rfl)
         have q6 := Ah s6
         have hI := hf.start (by kernel_rfl)
         exact Bo rfl s6 (Ab hI hr6) Tryz.underlying26 rfl Af ⟨trivial, rfl, rfl⟩
       · refine VC.plain rfl fun a wx hf => ?_
         obtain ⟨v59, g59, s59⟩ := hf.got 2 (by kernel_rfl) (by intro j hj; simp [eats] at hj) rfl rfl
         replace s59 := s59.trans (show v59 = .agg #[.int .i64 x.kind, .string x.text, .int .i64 x.int, .float .f64 x.real, .bool x.flag, .slice ax x.list.length cx] from g59)
         clear g59
         have q59 := Ah s59
         have hI := hf.start (by kernel_rfl)
         exact Bk (f := 31) (args := #[.agg #[.int .i64 x.kind, .string x.text, .int .i64 x.int, .float .f64 x.real, .bool x.flag, .slice ax x.list.length cx]]) (by simp [go_sem, q59]) ((hih wx hI).mono fun e w' ⟨a1, c1, he, h1, h2⟩ => ⟨_, he, trivial, h2, a1, c1, rfl, h1.mono (Bm hI.size)⟩)
       · refine VC.plain rfl fun a wx hf => ?_
         obtain ⟨v60, g60, s60⟩ := hf.got 3 (by kernel_rfl) (by intro j hj; simp [eats] at hj; omega) rfl rfl
         have q60 := Ah s60
         replace g60 : (fun (v : Value) (w : World) => ∃ (a1 : Option Addr) (c1 : Nat), v = .agg #[.int .i64 x.down.kind, .string x.down.text, .int .i64 x.down.int, .float .f64 x.down.real, .bool x.down.flag, .slice a1 x.down.list.length c1] /\ RV (As W4.heap.size w) (Ad x.down.kind x.down.text x.down.int x.down.real x.down.flag a1 x.down.list.length c1) x.down) v60 wx := g60
         dsimp only at g60
         obtain ⟨a1, c1, rfl, h1⟩ := g60
         have hal := (Below.refl wx.heap.size wx).alloc (Nat.le_refl _) (.cells #[.int .i64 x.down.kind, .string x.down.text, .int .i64 x.down.int, .float .f64 x.down.real, .bool x.down.flag, .slice a1 x.down.list.length c1] 26)
         exact Ac (u := .slice (some ⟨wx.heap.size, 0, none⟩) 1 1) (w' := wx.alloc (.cells #[.int .i64 x.down.kind, .string x.down.text, .int .i64 x.down.int, .float .f64 x.down.real, .bool x.down.flag, .slice a1 x.down.list.length c1] 26)) (by simp [go_sem, q60, Tryz.underlying24]) ⟨trivial, (Below.refl _ _).alloc (Nat.le_refl _) _, wx.heap.size, a1, c1, rfl, (MapKept.heap_alloc wx _).1, h1.mono (Aw hal)⟩
       · refine VC.plain rfl fun a wx hf => ?_
         obtain ⟨v58, g58, s58⟩ := hf.got 1 (by kernel_rfl) (by intro j hj; simp [eats] at hj) rfl rfl
         replace s58 := s58.trans (show v58 = .slice ae j ce from g58)
         clear g58
         have q58 := Ah s58
         obtain ⟨v61, g61, s61⟩ := hf.got 4 (by kernel_rfl) (by intro j hj; simp [eats] at hj; omega) rfl rfl
         have q61 := Ah s61
         replace g61 : (fun (v : Value) (w : World) => ∃ (b : Nat) (a1 : Option Addr) (c1 : Nat), v = .slice (some ⟨b, 0, none⟩) 1 1 /\ w.heap[b]? = some (.cells #[.int .i64 x.down.kind, .string x.down.text, .int .i64 x.down.int, .float .f64 x.down.real, .bool x.down.flag, .slice a1 x.down.list.length c1] 26 (0, 0)) /\ RV (As W4.heap.size w) (Ad x.down.kind x.down.text x.down.int x.down.real x.down.flag a1 x.down.list.length c1) x.down) v61 wx := g61
         dsimp only at g61
         have hI := hf.start (by kernel_rfl)
         obtain ⟨b, a1, c1, rfl, hbk, hrv⟩ := g61
         have hIs := hI.size
         have hown1 : wx.ownsRow (D + 1) 26 6 (.slice ae j ce) j css.flatten := Ba hrow (Fr.of_below hI) (fun k hk hle => by have := (Ae hrow k hk).2; omega)
         have hvs1 := hrvs.mono (Ci (B := D + 1) (own := (Value.slice ae j ce).ownBlock) hI)
         have hx1 := hrv.mono (C3 (B := D + 1) (own := (Value.slice ae j ce).ownBlock) hDs (fun k hk => (Ae hrow k hk).2))
         refine Cp rfl eVal s58 hown1 s61 (Co hbk rfl) (fun h => by cases h) (by simp [Value.oneCell']) hjn9 (by omega) (fun v' w' h1 h2 h3 => ?_)
         refine ⟨trivial, trivial, a1, c1, Fr.trans ((Fr.of_below hI).mono (fun i hi hle => absurd hle (by omega))) h2, ?_, (hvs1.snoc hx1).mono (D0 h2 h3)⟩
         simpa [Ad] using h1
       · refine VC.plain rfl fun a wx hf => ?_
         have s4 := hf.old 4 (by first | rfl | kernel_rfl)
         have q4 := Ah s4
         exact Ac (by simp [go_sem, q4]) ⟨hf.c, rfl, rfl⟩
       · refine VC.plain rfl fun a wx hf => ?_
         obtain ⟨v63, g63, s63⟩ := hf.got 6 (by kernel_rfl) (by intro j hj; simp [eats] at hj) rfl rfl
         replace s63 := s63.trans (show v63 = .pointer (some ⟨D, 5, none⟩) from g63)
         clear g63
         have q63 := Ah s63
         obtain ⟨v62, g62, s62⟩ := hf.got 5 (by kernel_rfl) (by intro j hj; simp [eats] at hj; omega) rfl rfl
         have q62 := Ah s62
         replace g62 : (fun (v : Value) (w : World) => DApp D W4 (.slice ae j ce) j css pre x.down v w) v62 wx := g62
         dsimp only at g62
         obtain ⟨a1, c1, h1, h2, h3⟩ := g62
         obtain ⟨a31, c31, rfl⟩ := (Reads.of_owns h2).shape
         exact Cw (w' := wx.setCell ⟨D, 5, none⟩ _) (by simp [go_sem, q62, q63, h1.cell (p := ⟨D, 5, none⟩) hc5 hDo, (hblk.fr h1 hDo).frz 5 none]) ⟨trivial, trivial, _, wx, rfl, a1, c1, h1, h2, h3⟩
     · intro vs w5 _ hG
       obtain ⟨v1, w6, e, a1, c1, g1, g2, g3⟩ := hG 7 (by decide) (by decide)
       clear hG
       subst e
       obtain ⟨a8, c8, rfl⟩ := (Reads.of_owns g2).shape
       obtain ⟨W9, hW9⟩ : ∃ W9, W9 = w6.setCell ⟨D, 5, none⟩ (.slice a8 (j + 1) c8) := ⟨_, rfl⟩
       have hfD : Fr (fun k => k = D) w6 W9 := by rw [hW9]; exact Fr.setCell (S := fun k => k = D) (Fr.refl _ _) (fun _ => rfl) _
       have hk0 : ∀ q u, q ≠ 5 -> W4.cell? ⟨D, q, none⟩ = some u -> W9.cell? ⟨D, q, none⟩ = some u := fun q u hq hu => by
         rw [hW9, Ai (fun e => hq (congrArg Addr.off e).symm)]; exact g1.cell hu hDo
       have hRn : W9.rangeAt D 0 [.int .i64 5, .string ⟨#[]⟩, .int .i64 0, .float .f64 0, .bool false, .slice a8 (j + 1) c8] :=
         A9 (hk0 _ _ (by omega) (by simpa using hrD 0 _ rfl)) (hk0 _ _ (by omega) (by simpa using hrD 1 _ rfl)) (hk0 _ _ (by omega) (by simpa using hrD 2 _ rfl)) (hk0 _ _ (by omega) (by simpa using hrD 3 _ rfl)) (hk0 _ _ (by omega) (by simpa using hrD 4 _ rfl)) (by rw [hW9]; exact Ap (g1.cell hc5 hDo))
       have hBn : Blk W9 D := by rw [hW9]; exact (hblk.fr g1 hDo).setCell _ _
       have hown9 : W9.ownsRow (D + 1) 26 6 (.slice a8 (j + 1) c8) (j + 1) (css ++ [Ad x.down.kind x.down.text x.down.int x.down.real x.down.flag a1 x.down.list.length c1]).flatten := by
         rw [List.flatten_append]
         simpa using Ba g2 hfD (fun k hk e => by have := (Ae g2 k hk).1; omega)
       have hvs9 := g3.mono (fun ad u h => let ⟨h1, h2, h3⟩ := B0 h; Dy (w := W9) (hfD.cell h1 (fun e => by omega)) h2 h3)
       have hs6 := g1.size
       have hs9 := hfD.size
       have hbn : Below D W2 W9 := hbel4.trans ((g1.below (by omega) (fun k hk e => by have := (Ae hrow k e).1; omega)).trans (hfD.below (by omega) (fun k hk e => by omega)))
       have hz9 : D + 1 <= W9.heap.size := by omega
       have e9 : (v.list.take (j + 1)).map V.down = pre ++ [x.down] := by rw [hts.out, List.map_append, hpre]; rfl
       rw [<- e9] at hvs9
       rw [<- hW9]
       replace hW9 := Hd hW9
       replace hRn := Hd hRn
       replace hBn := Hd hBn
       replace hown9 := Hd hown9
       replace hvs9 := Hd hvs9
       replace hbn := Hd hbn
       clear hk0 g1 g2 g3 hfD hc5 hDo hrow hrvs hblk hih hrD hr6 hs6 hs9 hbel4 hlv4 hbw d0 d1 d2 d3 d4 d5
       simp only [putFrom, Act.put, List.setIfInBounds_toArray, List.set_cons_zero, List.set_cons_succ]
       go_wp2_with fail
       go_roundw
       case rel => exact ⟨j + 1, _, _, by omega, by go_num, hown9.out, hvs9.out, hRn.out, hBn.out, hbn.out, hz9⟩
       case measure => simp [intOf]; omega
   · obtain rfl : j = n := by omega
     have hjl : (v.list.take j).map V.down = v.list.map V.down := by rw [List.take_of_length_le (by rw [<- en.out]; exact Nat.le_refl _)]
     rw [hjl] at hrs
     obtain ⟨a3, c3, rfl⟩ := (Reads.of_owns hown).shape
     have hbel2 : Below W2.heap.size W2 wr := by rw [hD.out]; exact hbel
     have htC := A0 (n := 6) (Ab hbel2 hrC.out) (hfC.out.of_block (hbel.block _ hcl)) rfl
     have hfin : Fr (fun k => k = w.heap.size + 1) wr (wr.setCells (w.heap.size + 1) 0 [.int .i64 5, .string ⟨#[]⟩, .int .i64 0, .float .f64 0, .bool false, .slice a3 j c3]) := Fr.setCells (S := fun k => k = w.heap.size + 1) (fun _ => rfl) _ _ _ (Fr.refl _ wr)
     have hrR : (wr.setCells (w.heap.size + 1) 0 [.int .i64 5, .string ⟨#[]⟩, .int .i64 0, .float .f64 0, .bool false, .slice a3 j c3]).rangeAt (w.heap.size + 1) 0 [.int .i64 5, .string ⟨#[]⟩, .int .i64 0, .float .f64 0, .bool false, .slice a3 j c3] := World.rangeAt_setCells_same _ _ _ _ htC
     replace hown := Hd hown
     replace hrs := Hd hrs
     replace hr := Hd hr
     replace htC := Hd htC
     replace hrR := Hd hrR
     replace hfin := Hd hfin
     replace hbel := Hd hbel
     clear hbel2
     go_wp2_with (first
       | (refine wpList_load_mid rfl 26 _ rfl D 0 rfl _ _ hr.out Tryz.underlying26 rfl Af ?_)
       | (refine wpList_store_mid rfl 26 _ _ rfl (w.heap.size + 1) 0 _ rfl rfl htC.out Af (one6 _ _ _ _ _ _ _ _) ?_))
     refine bodyPost_ret (Am (v := .agg #[.int .i64 5, .string ⟨#[]⟩, .int .i64 0, .float .f64 0, .bool false, .slice a3 j c3]) rfl rfl (run_loadVar_mid (P := Tryz.prog) _ _ 0 26 _ _ hrR.out Tryz.underlying26 rfl Af)) rfl ?_
     have hll : (v.list.map V.down).length = j := by rw [List.length_map, <- en.out]
     have hrv := RV.of_row (v := .mk 5 ⟨#[]⟩ 0 0 false (v.list.map V.down)) hll.symm (Ba hown.out hfin.out (fun q hq e => by have := (Ae hown.out q hq).1; omega)) ((hrs.out.mono (fun ad u h => let ⟨h1, h2, h3⟩ := B0 h; Dy (hfin.out.cell h1 (fun e => by omega)) h2 h3)).mono Eh)
     refine ⟨a3, c3, ?_, ?_, (hb2.out.trans (hbel.out.mono (by omega))).trans (hfin.out.below (by have := hbel.out.size; omega) (fun q hq e => by omega))⟩
     · rw [hdn.out]
       show _ = Ending.returned (.agg #[.int .i64 5, .string ⟨#[]⟩, .int .i64 0, .float .f64 0, .bool false, .slice a3 (v.list.map V.down).length c3])
       rw [hll]
     · rw [hdn.out]
       show RV _ (Ad 5 ⟨#[]⟩ 0 0 false a3 (v.list.map V.down).length c3) _
       rw [hll]
       exact hrv.mono (Bm (by omega))
set_option maxRecDepth 100000 in
set_option maxHeartbeats 6400000 in
theorem down_14 {v : V} (ih : DownIH v) {t : ByteArray} {i : Int} {r : Nat} {f : Bool} {a : Option Addr} {n cap : Nat} {d : Int} {w : World} (hp : DownH v 14 t i r f a n cap d w) :
   Calls Tryz.prog 31 #[.agg #[.int .i64 14, .string t, .int .i64 i, .float .f64 r, .bool f, .slice a n cap]] w (Bx v w) := by
 replace ih := Hd ih
 obtain ⟨ek, et, ei, er, ef, en⟩ := hp.val.len
 have hra := (V.ranged_eq v).1 hp.ranged
 have hLv := hp.laid
 obtain ⟨W2, hW2⟩ : ∃ W2, W2 = (w.alloc (.cells #[.int .i64 14, .string t, .int .i64 i, .float .f64 r, .bool f, .slice a n cap] 26)).alloc (.cells #[.int .i64 0, .string ⟨#[]⟩, .int .i64 0, .float .f64 0, .bool false, .slice none 0 0] 26) := ⟨_, rfl⟩
 have hb2 : Below w.heap.size w W2 := by rw [hW2]; exact ((Below.refl _ _).alloc (Nat.le_refl _) _).alloc (by simp) _
 have hs2 : W2.heap.size = w.heap.size + 2 := by rw [hW2]; simp
 have hB : ∀ q u, #[.int .i64 14, .string t, .int .i64 i, .float .f64 r, .bool f, .slice a n cap][q]? = some u -> W2.cell? ⟨w.heap.size, q, none⟩ = some u := fun q u h => by rw [hW2, World.cell?_alloc_past _ _ _ (by simp), World.cell?_alloc_new]; exact h
 have hrC : W2.rangeAt (w.heap.size + 1) 0 [.int .i64 0, .string ⟨#[]⟩, .int .i64 0, .float .f64 0, .bool false, .slice none 0 0] := fun q u h => by
   rw [Nat.zero_add, hW2, show w.heap.size + 1 = (w.alloc (.cells #[.int .i64 14, .string t, .int .i64 i, .float .f64 r, .bool f, .slice a n cap] 26)).heap.size by simp, World.cell?_alloc_new]; simpa using h
 have hfC : Blk W2 (w.heap.size + 1) := by rw [hW2, show w.heap.size + 1 = (w.alloc (.cells #[.int .i64 14, .string t, .int .i64 i, .float .f64 r, .bool f, .slice a n cap] 26)).heap.size by simp]; exact Blk.new _ _ _
 have hcl := hfC.lt
 have e0 := hB 0 _ rfl
 have e1 := hB 1 _ rfl
 have e2 := hB 2 _ rfl
 have e3 := hB 3 _ rfl
 have e4 := hB 4 _ rfl
 have e5 := hB 5 _ rfl
 clear hB
 replace hW2 := Hd hW2
 replace hb2 := Hd hb2
 replace hs2 := Hd hs2
 replace hrC := Hd hrC
 replace hfC := Hd hfC
 replace ek := Hd ek
 replace et := Hd et
 replace ei := Hd ei
 replace er := Hd er
 replace ef := Hd ef
 replace en := Hd en
 replace hra := Hd hra
 replace hLv := Hd hLv
 replace hp := Hd hp
 go_enter Tryz.func31, Tryz.ntmps31
 go_upto_region 1 with fail
 rw [<- hW2.out]
 have hdn : v.down = .mk 5 ⟨#[]⟩ 0 0 false (v.list.map V.down) := by rw [V.down_eq, <- ek.out]; rfl
 have hfe := hp.out.fine
 rw [V.fine_eq, Bool.and_eq_true] at hfe
 have hn9 : n <= 100000 := by
   have h1 := hp.out.count
   have h2 := V.length_le v.list
   have h3 := v.count_eq
   have h4 := en.out
   omega
 replace hdn := Hd hdn
 replace hfe := Hd hfe
 obtain ⟨W3, hW3⟩ : ∃ W3, W3 = W2.alloc (.cells #[.int .i64 5, .string ⟨#[]⟩, .int .i64 0, .float .f64 0, .bool false, .slice none 0 0] 26) := ⟨_, rfl⟩
 obtain ⟨D, hD⟩ : ∃ D, W2.heap.size = D := ⟨_, rfl⟩
 have hb3 : Below D W2 W3 := by rw [hW3, <- hD]; exact (Below.refl _ _).alloc (Nat.le_refl _) _
 have hrg : W3.rangeAt D 0 [.int .i64 5, .string ⟨#[]⟩, .int .i64 0, .float .f64 0, .bool false, .slice none 0 0] := by
   rw [hW3, <- hD]; intro q u hq; rw [Nat.zero_add, World.cell?_alloc_new]; simpa using hq
 have hbk : Blk W3 D := by rw [hW3, <- hD]; exact Blk.new _ _ _
 have hs3 : W3.heap.size = D + 1 := by rw [hW3, <- hD]; simp
 have e5' : (W2.alloc (.cells #[.int .i64 5, .string ⟨#[]⟩, .int .i64 0, .float .f64 0, .bool false, .slice none 0 0] 26)).cell? ⟨w.heap.size, 5, none⟩ = some (.slice a n cap) := by
   rw [<- hW3]; exact (hb3.cell (show w.heap.size < D by have := hs2.out; omega)).trans e5
 replace hW3 := Hd hW3
 replace hb3 := Hd hb3
 replace hrg := Hd hrg
 replace hbk := Hd hbk
 replace hs3 := Hd hs3
 replace hD := Hd hD
 clear e1 e2 e3 e4
 go_wp2_with fail
 rw [<- hW3.out, hD.out]
 rw [hD.out] at hcl
 have hs2' := hs2.out
 rw [hD.out] at hs2'
 go_loopw [53] (fun q wr => ∃ (j : Nat) (lv : Value) (css : List (List Value)), j <= n /\ q = .int .i64 j /\ wr.ownsRow (D + 1) 26 6 lv j css.flatten /\ RVs (nf (D + 1) lv.ownBlock wr) css ((v.list.take j).map V.down) /\
     wr.rangeAt D 0 [.int .i64 5, .string ⟨#[]⟩, .int .i64 0, .float .f64 0, .bool false, lv] /\ Blk wr D /\ Below D W2 wr /\ D + 1 <= wr.heap.size) (fun q _ => n - (intOf q).toNat)
 case atStart => exact ⟨0, _, [], Nat.zero_le _, rfl, World.ownsRow_nil _ _ _ _, RVs.nil _, hrg.out, hbk.out, hb3.out, by have := hs3.out; omega⟩
 case round =>
   obtain ⟨j, lv, css, hj, rfl, hown, hrs, hr, hk, hbel, hsz⟩ := hrel
   clear hrg hbk hb3 hs3 e0 e5 e5'
   have hbw : Below w.heap.size w wr := hb2.out.trans (hbel.mono (by omega))
   by_cases hlt : j < n
   · have hlti : (j : Int) < (n : Int) := by omega
     have hvw := hp.out.val.mono (Aa hbw)
     rw [show Ad 14 t i r f a n cap = Ad v.kind v.text v.int v.real v.flag a n cap by rw [<- ek.out, <- et.out, <- ei.out, <- er.out, <- ef.out]] at hvw
     obtain ⟨x, bb, o, ax, cx, hxj, hmem, rfl, hx, d0, d1, d2, d3, d4, d5⟩ := hvw.elem' hlt
     have hts : v.list.take (j + 1) = v.list.take j ++ [x] := by
       obtain ⟨h1, h2⟩ := List.getElem?_eq_some_iff.1 hxj
       rw [List.take_succ_eq_append_getElem h1, h2]
     obtain ⟨ae, ce, rfl⟩ := (Reads.of_owns hown).shape
     obtain ⟨W4, hW4⟩ : ∃ W4, W4 = wr.alloc (.cells #[.int .i64 x.kind, .string x.text, .int .i64 x.int, .float .f64 x.real, .bool x.flag, .slice ax x.list.length cx] 26) := ⟨_, rfl⟩
     have hb4 : Below wr.heap.size wr W4 := by rw [hW4]; exact (Below.refl _ _).alloc (Nat.le_refl _) _
     have hs4 : W4.heap.size = wr.heap.size + 1 := by rw [hW4]; simp
     have hr6 : W4.rangeAt wr.heap.size 0 [.int .i64 x.kind, .string x.text, .int .i64 x.int, .float .f64 x.real, .bool x.flag, .slice ax x.list.length cx] := by
       rw [hW4]; intro q u hq; rw [Nat.zero_add, World.cell?_alloc_new]; simpa using hq
     have hrow := Ba hown (Fr.of_below hb4) (fun k hk hle => by have := (Ae hown k hk).2; omega)
     have hrvs := hrs.mono (Ci (B := D + 1) (own := (Value.slice ae j ce).ownBlock) hb4)
     have hrD := Ab hb4 hr
     have hblk := hk.of_block (hb4.block D (by omega))
     have hc5 : W4.cell? ⟨D, 5, none⟩ = some (.slice ae j ce) := by have := hrD 5 _ rfl; simpa using this
     have hDl : D < W4.heap.size := by omega
     have hDs : D + 1 <= W4.heap.size := by omega
     have hDo : ¬ (Value.slice ae j ce).ownBlock = some D := fun e => by have := (Ae hrow D e).1; omega
     have hbel4 : Below D W2 W4 := hbel.trans (hb4.mono (by omega))
     have hlv4 : LaidV W4.heap.size W4 := ((hLv.out.below (hbw.trans (hb4.mono hbw.size)) (Nat.le_refl _)).mono (by have := hbw.size; omega))
     have hih : ∀ wx, Below W4.heap.size W4 wx -> Calls Tryz.prog 31 #[.agg #[.int .i64 x.kind, .string x.text, .int .i64 x.int, .float .f64 x.real, .bool x.flag, .slice ax x.list.length cx]] wx (Bx x wx) := fun wx hI =>
       ih.out x hmem _ _ _ _ _ _ _ _ (d - 1) wx ⟨(hx.mono (Aa hb4)).mono (Aa hI), Bb hfe.out.2 x hmem, V.rangedL_mem hra.out.2.2.2 x hmem, by
         have h1 := V.count_mem hmem
         have h2 := hp.out.count
         have h3 := v.count_eq
         omega, (hlv4.below hI (Nat.le_refl _)).mono hI.size⟩
     have hjn9 : j + 1 < 1000000000 := by omega
     replace hW4 := Hd hW4
     replace hih := Hd hih
     replace hrow := Hd hrow
     replace hrvs := Hd hrvs
     replace hts := Hd hts
     clear hown hrs hr hk hbel hx hvw hb4
     replace hr6 := Hd hr6
     replace hrD := Hd hrD
     replace hc5 := Hd hc5
     go_upto_region 23 with fail
     rw [<- hW4.out]
     replace hih := hih.out
     replace hrow := hrow.out
     replace hrvs := hrvs.out
     replace hr6 := hr6.out
     replace hrD := hrD.out
     replace hc5 := hc5.out
     obtain ⟨pre, hpre⟩ : ∃ pre, pre = (v.list.take j).map V.down := ⟨_, rfl⟩
     rw [<- hpre] at hrvs
     refine wp_region_rely (l := [_, _, _, _, _, _, _, _]) (fun _ => True) (Below W4.heap.size W4) dlR (fun kG_ => ([fun v _ => v = .pointer (some ⟨D, 5, none⟩), fun v _ => v = .slice ae j ce, fun v _ => v = .agg #[.int .i64 x.kind, .string x.text, .int .i64 x.int, .float .f64 x.real, .bool x.flag, .slice ax x.list.length cx], fun v w => ∃ (a1 : Option Addr) (c1 : Nat), v = .agg #[.int .i64 x.down.kind, .string x.down.text, .int .i64 x.down.int, .float .f64 x.down.real, .bool x.down.flag, .slice a1 x.down.list.length c1] /\ RV (As W4.heap.size w) (Ad x.down.kind x.down.text x.down.int x.down.real x.down.flag a1 x.down.list.length c1) x.down, fun v w => ∃ (b : Nat) (a1 : Option Addr) (c1 : Nat), v = .slice (some ⟨b, 0, none⟩) 1 1 /\ w.heap[b]? = some (.cells #[.int .i64 x.down.kind, .string x.down.text, .int .i64 x.down.int, .float .f64 x.down.real, .bool x.down.flag, .slice a1 x.down.list.length c1] 26 (0, 0)) /\ RV (As W4.heap.size w) (Ad x.down.kind x.down.text x.down.int x.down.real x.down.flag a1 x.down.list.length c1) x.down, fun v w => DApp D W4 (.slice ae j ce) j css pre x.down v w, fun v _ => v = .pointer (some ⟨D, 5, none⟩), fun v w => ∃ (v1 : Value) (w1 : World), w = w1.setCell ⟨D, 5, none⟩ v1 /\ DApp D W4 (.slice ae j ce) j css pre x.down v1 w1] : List (Value -> World -> Prop)).getD kG_ (fun _ _ => True)) (eats [(4, 3), (5, 4), (7, 5)]) (isIn [5, 7]) (by kernel_rfl) (by kernel_rfl) (by kernel_rfl) trivial ((Below.refl _ _).drew) ?_ ?_ ?_ ?_
     · intro i kG_ u w w' hne hE hg hr
       rcases kG_ with _ | _ | _ | _ | _ | _ | _ | _ | kG_
       · exact hg
       · exact hg
       · exact hg
       · replace hg : (fun (v : Value) (w : World) => ∃ (a1 : Option Addr) (c1 : Nat), v = .agg #[.int .i64 x.down.kind, .string x.down.text, .int .i64 x.down.int, .float .f64 x.down.real, .bool x.down.flag, .slice a1 x.down.list.length c1] /\ RV (As W4.heap.size w) (Ad x.down.kind x.down.text x.down.int x.down.real x.down.flag a1 x.down.list.length c1) x.down) u w := hg
         show (fun (v : Value) (w : World) => ∃ (a1 : Option Addr) (c1 : Nat), v = .agg #[.int .i64 x.down.kind, .string x.down.text, .int .i64 x.down.int, .float .f64 x.down.real, .bool x.down.flag, .slice a1 x.down.list.length c1] /\ RV (As W4.heap.size w) (Ad x.down.kind x.down.text x.down.int x.down.real x.down.flag a1 x.down.list.length c1) x.down) u w'
         dsimp only at hg ⊢
         replace hE : exB _ _ i 3 = false := hE
         replace hne : 3 ≠ i := hne
         unfold dlR at hr
         split at hr
         all_goals first
           | exact absurd rfl hne
           | exact absurd (hE.symm.trans (by decide +kernel : exB _ _ _ _ = true)) (by decide)
           | (subst hr; exact hg)
           | ((obtain ⟨a1, c1, h1, h2⟩ := hg; exact ⟨a1, c1, h1, h2.mono (Aw hr)⟩))
       · replace hg : (fun (v : Value) (w : World) => ∃ (b : Nat) (a1 : Option Addr) (c1 : Nat), v = .slice (some ⟨b, 0, none⟩) 1 1 /\ w.heap[b]? = some (.cells #[.int .i64 x.down.kind, .string x.down.text, .int .i64 x.down.int, .float .f64 x.down.real, .bool x.down.flag, .slice a1 x.down.list.length c1] 26 (0, 0)) /\ RV (As W4.heap.size w) (Ad x.down.kind x.down.text x.down.int x.down.real x.down.flag a1 x.down.list.length c1) x.down) u w := hg
         show (fun (v : Value) (w : World) => ∃ (b : Nat) (a1 : Option Addr) (c1 : Nat), v = .slice (some ⟨b, 0, none⟩) 1 1 /\ w.heap[b]? = some (.cells #[.int .i64 x.down.kind, .string x.down.text, .int .i64 x.down.int, .float .f64 x.down.real, .bool x.down.flag, .slice a1 x.down.list.length c1] 26 (0, 0)) /\ RV (As W4.heap.size w) (Ad x.down.kind x.down.text x.down.int x.down.real x.down.flag a1 x.down.list.length c1) x.down) u w'
         dsimp only at hg ⊢
         replace hE : exB _ _ i 4 = false := hE
         replace hne : 4 ≠ i := hne
         unfold dlR at hr
         split at hr
         all_goals first
           | exact absurd rfl hne
           | exact absurd (hE.symm.trans (by decide +kernel : exB _ _ _ _ = true)) (by decide)
           | (subst hr; exact hg)
           | ((obtain ⟨b, a1, c1, h1, h2, h3⟩ := hg; exact ⟨b, a1, c1, h1, (hr.block b (Array.getElem?_eq_some_iff.1 h2).1).trans h2, h3.mono (Aw hr)⟩))
       · replace hg : (fun (v : Value) (w : World) => DApp D W4 (.slice ae j ce) j css pre x.down v w) u w := hg
         show (fun (v : Value) (w : World) => DApp D W4 (.slice ae j ce) j css pre x.down v w) u w'
         dsimp only at hg ⊢
         replace hE : exB _ _ i 5 = false := hE
         replace hne : 5 ≠ i := hne
         unfold dlR at hr
         split at hr
         all_goals first
           | exact absurd rfl hne
           | exact absurd (hE.symm.trans (by decide +kernel : exB _ _ _ _ = true)) (by decide)
           | (subst hr; exact hg)
           | (fail)
       · exact hg
       · replace hg : (fun (v : Value) (w : World) => ∃ (v1 : Value) (w1 : World), w = w1.setCell ⟨D, 5, none⟩ v1 /\ DApp D W4 (.slice ae j ce) j css pre x.down v1 w1) u w := hg
         show (fun (v : Value) (w : World) => ∃ (v1 : Value) (w1 : World), w = w1.setCell ⟨D, 5, none⟩ v1 /\ DApp D W4 (.slice ae j ce) j css pre x.down v1 w1) u w'
         dsimp only at hg ⊢
         replace hE : exB _ _ i 7 = false := hE
         replace hne : 7 ≠ i := hne
         unfold dlR at hr
         split at hr
         all_goals first
           | exact absurd rfl hne
           | exact absurd (hE.symm.trans (by decide +kernel : exB _ _ _ _ = true)) (by decide)
           | (subst hr; exact hg)
           | (fail)
       · trivial
     · intro jj w6 w7 hF hI hr
       unfold dlR at hr
       split at hr
       · exact hI.trans (hr.mono hI.size)
       · exact hI.trans (hr.mono hI.size)
       · exact absurd hF (by decide)
       · exact absurd hF (by decide)
       · subst hr; exact hI
     · refine ⟨?_, ?_, ?_, ?_, ?_, ?_, ?_, ?_, trivial⟩
       · refine VC.plain rfl fun a wx hf => ?_
         have s4 := hf.old 4 (by first | rfl | kernel_rfl)
         have q4 := Ah s4
         exact Ac (by simp [go_sem, q4]) ⟨hf.c, rfl, rfl⟩
       · refine VC.plain rfl fun a wx hf => ?_
         obtain ⟨v57, g57, s57⟩ := hf.got 0 (by kernel_rfl) (by intro j hj; simp [eats] at hj) rfl rfl
         replace s57 := s57.trans (show v57 = .pointer (some ⟨D, 5, none⟩) from g57)
         clear g57
         have q57 := Ah s57
         have hI := hf.start (by kernel_rfl)
         exact Ac (by simp [go_sem, q57, hI.cell (p := ⟨D, 5, none⟩) hDl, hc5]) ⟨trivial, rfl, rfl⟩
       · refine VC.plain rfl fun a wx hf => ?_
         have s6 := hf.old 6 (by first | rfl | kernel_rfl)
         have q6 := Ah s6
         have hI := hf.start (by kernel_rfl)
         exact Bo rfl s6 (Ab hI hr6) Tryz.underlying26 rfl Af ⟨trivial, rfl, rfl⟩
       · refine VC.plain rfl fun a wx hf => ?_
         obtain ⟨v59, g59, s59⟩ := hf.got 2 (by kernel_rfl) (by intro j hj; simp [eats] at hj) rfl rfl
         replace s59 := s59.trans (show v59 = .agg #[.int .i64 x.kind, .string x.text, .int .i64 x.int, .float .f64 x.real, .bool x.flag, .slice ax x.list.length cx] from g59)
         clear g59
         have q59 := Ah s59
         have hI := hf.start (by kernel_rfl)
         exact Bk (f := 31) (args := #[.agg #[.int .i64 x.kind, .string x.text, .int .i64 x.int, .float .f64 x.real, .bool x.flag, .slice ax x.list.length cx]]) (by simp [go_sem, q59]) ((hih wx hI).mono fun e w' ⟨a1, c1, he, h1, h2⟩ => ⟨_, he, trivial, h2, a1, c1, rfl, h1.mono (Bm hI.size)⟩)
       · refine VC.plain rfl fun a wx hf => ?_
         obtain ⟨v60, g60, s60⟩ := hf.got 3 (by kernel_rfl) (by intro j hj; simp [eats] at hj; omega) rfl rfl
         have q60 := Ah s60
         replace g60 : (fun (v : Value) (w : World) => ∃ (a1 : Option Addr) (c1 : Nat), v = .agg #[.int .i64 x.down.kind, .string x.down.text, .int .i64 x.down.int, .float .f64 x.down.real, .bool x.down.flag, .slice a1 x.down.list.length c1] /\ RV (As W4.heap.size w) (Ad x.down.kind x.down.text x.down.int x.down.real x.down.flag a1 x.down.list.length c1) x.down) v60 wx := g60
         dsimp only at g60
         obtain ⟨a1, c1, rfl, h1⟩ := g60
         have hal := (Below.refl wx.heap.size wx).alloc (Nat.le_refl _) (.cells #[.int .i64 x.down.kind, .string x.down.text, .int .i64 x.down.int, .float .f64 x.down.real, .bool x.down.flag, .slice a1 x.down.list.length c1] 26)
         exact Ac (u := .slice (some ⟨wx.heap.size, 0, none⟩) 1 1) (w' := wx.alloc (.cells #[.int .i64 x.down.kind, .string x.down.text, .int .i64 x.down.int, .float .f64 x.down.real, .bool x.down.flag, .slice a1 x.down.list.length c1] 26)) (by simp [go_sem, q60, Tryz.underlying24]) ⟨trivial, (Below.refl _ _).alloc (Nat.le_refl _) _, wx.heap.size, a1, c1, rfl, (MapKept.heap_alloc wx _).1, h1.mono (Aw hal)⟩
       · refine VC.plain rfl fun a wx hf => ?_
         obtain ⟨v58, g58, s58⟩ := hf.got 1 (by kernel_rfl) (by intro j hj; simp [eats] at hj) rfl rfl
         replace s58 := s58.trans (show v58 = .slice ae j ce from g58)
         clear g58
         have q58 := Ah s58
         obtain ⟨v61, g61, s61⟩ := hf.got 4 (by kernel_rfl) (by intro j hj; simp [eats] at hj; omega) rfl rfl
         have q61 := Ah s61
         replace g61 : (fun (v : Value) (w : World) => ∃ (b : Nat) (a1 : Option Addr) (c1 : Nat), v = .slice (some ⟨b, 0, none⟩) 1 1 /\ w.heap[b]? = some (.cells #[.int .i64 x.down.kind, .string x.down.text, .int .i64 x.down.int, .float .f64 x.down.real, .bool x.down.flag, .slice a1 x.down.list.length c1] 26 (0, 0)) /\ RV (As W4.heap.size w) (Ad x.down.kind x.down.text x.down.int x.down.real x.down.flag a1 x.down.list.length c1) x.down) v61 wx := g61
         dsimp only at g61
         have hI := hf.start (by kernel_rfl)
         obtain ⟨b, a1, c1, rfl, hbk, hrv⟩ := g61
         have hIs := hI.size
         have hown1 : wx.ownsRow (D + 1) 26 6 (.slice ae j ce) j css.flatten := Ba hrow (Fr.of_below hI) (fun k hk hle => by have := (Ae hrow k hk).2; omega)
         have hvs1 := hrvs.mono (Ci (B := D + 1) (own := (Value.slice ae j ce).ownBlock) hI)
         have hx1 := hrv.mono (C3 (B := D + 1) (own := (Value.slice ae j ce).ownBlock) hDs (fun k hk => (Ae hrow k hk).2))
         refine Cp rfl eVal s58 hown1 s61 (Co hbk rfl) (fun h => by cases h) (by simp [Value.oneCell']) hjn9 (by omega) (fun v' w' h1 h2 h3 => ?_)
         refine ⟨trivial, trivial, a1, c1, Fr.trans ((Fr.of_below hI).mono (fun i hi hle => absurd hle (by omega))) h2, ?_, (hvs1.snoc hx1).mono (D0 h2 h3)⟩
         simpa [Ad] using h1
       · refine VC.plain rfl fun a wx hf => ?_
         have s4 := hf.old 4 (by first | rfl | kernel_rfl)
         have q4 := Ah s4
         exact Ac (by simp [go_sem, q4]) ⟨hf.c, rfl, rfl⟩
       · refine VC.plain rfl fun a wx hf => ?_
         obtain ⟨v63, g63, s63⟩ := hf.got 6 (by kernel_rfl) (by intro j hj; simp [eats] at hj) rfl rfl
         replace s63 := s63.trans (show v63 = .pointer (some ⟨D, 5, none⟩) from g63)
         clear g63
         have q63 := Ah s63
         obtain ⟨v62, g62, s62⟩ := hf.got 5 (by kernel_rfl) (by intro j hj; simp [eats] at hj; omega) rfl rfl
         have q62 := Ah s62
         replace g62 : (fun (v : Value) (w : World) => DApp D W4 (.slice ae j ce) j css pre x.down v w) v62 wx := g62
         dsimp only at g62
         obtain ⟨a1, c1, h1, h2, h3⟩ := g62
         obtain ⟨a31, c31, rfl⟩ := (Reads.of_owns h2).shape
         exact Cw (w' := wx.setCell ⟨D, 5, none⟩ _) (by simp [go_sem, q62, q63, h1.cell (p := ⟨D, 5, none⟩) hc5 hDo, (hblk.fr h1 hDo).frz 5 none]) ⟨trivial, trivial, _, wx, rfl, a1, c1, h1, h2, h3⟩
     · intro vs w5 _ hG
       obtain ⟨v1, w6, e, a1, c1, g1, g2, g3⟩ := hG 7 (by decide) (by decide)
       clear hG
       subst e
       obtain ⟨a8, c8, rfl⟩ := (Reads.of_owns g2).shape
       obtain ⟨W9, hW9⟩ : ∃ W9, W9 = w6.setCell ⟨D, 5, none⟩ (.slice a8 (j + 1) c8) := ⟨_, rfl⟩
       have hfD : Fr (fun k => k = D) w6 W9 := by rw [hW9]; exact Fr.setCell (S := fun k => k = D) (Fr.refl _ _) (fun _ => rfl) _
       have hk0 : ∀ q u, q ≠ 5 -> W4.cell? ⟨D, q, none⟩ = some u -> W9.cell? ⟨D, q, none⟩ = some u := fun q u hq hu => by
         rw [hW9, Ai (fun e => hq (congrArg Addr.off e).symm)]; exact g1.cell hu hDo
       have hRn : W9.rangeAt D 0 [.int .i64 5, .string ⟨#[]⟩, .int .i64 0, .float .f64 0, .bool false, .slice a8 (j + 1) c8] :=
         A9 (hk0 _ _ (by omega) (by simpa using hrD 0 _ rfl)) (hk0 _ _ (by omega) (by simpa using hrD 1 _ rfl)) (hk0 _ _ (by omega) (by simpa using hrD 2 _ rfl)) (hk0 _ _ (by omega) (by simpa using hrD 3 _ rfl)) (hk0 _ _ (by omega) (by simpa using hrD 4 _ rfl)) (by rw [hW9]; exact Ap (g1.cell hc5 hDo))
       have hBn : Blk W9 D := by rw [hW9]; exact (hblk.fr g1 hDo).setCell _ _
       have hown9 : W9.ownsRow (D + 1) 26 6 (.slice a8 (j + 1) c8) (j + 1) (css ++ [Ad x.down.kind x.down.text x.down.int x.down.real x.down.flag a1 x.down.list.length c1]).flatten := by
         rw [List.flatten_append]
         simpa using Ba g2 hfD (fun k hk e => by have := (Ae g2 k hk).1; omega)
       have hvs9 := g3.mono (fun ad u h => let ⟨h1, h2, h3⟩ := B0 h; Dy (w := W9) (hfD.cell h1 (fun e => by omega)) h2 h3)
       have hs6 := g1.size
       have hs9 := hfD.size
       have hbn : Below D W2 W9 := hbel4.trans ((g1.below (by omega) (fun k hk e => by have := (Ae hrow k e).1; omega)).trans (hfD.below (by omega) (fun k hk e => by omega)))
       have hz9 : D + 1 <= W9.heap.size := by omega
       have e9 : (v.list.take (j + 1)).map V.down = pre ++ [x.down] := by rw [hts.out, List.map_append, hpre]; rfl
       rw [<- e9] at hvs9
       rw [<- hW9]
       replace hW9 := Hd hW9
       replace hRn := Hd hRn
       replace hBn := Hd hBn
       replace hown9 := Hd hown9
       replace hvs9 := Hd hvs9
       replace hbn := Hd hbn
       clear hk0 g1 g2 g3 hfD hc5 hDo hrow hrvs hblk hih hrD hr6 hs6 hs9 hbel4 hlv4 hbw d0 d1 d2 d3 d4 d5
       simp only [putFrom, Act.put, List.setIfInBounds_toArray, List.set_cons_zero, List.set_cons_succ]
       go_wp2_with fail
       go_roundw
       case rel => exact ⟨j + 1, _, _, by omega, by go_num, hown9.out, hvs9.out, hRn.out, hBn.out, hbn.out, hz9⟩
       case measure => simp [intOf]; omega
   · obtain rfl : j = n := by omega
     have hjl : (v.list.take j).map V.down = v.list.map V.down := by rw [List.take_of_length_le (by rw [<- en.out]; exact Nat.le_refl _)]
     rw [hjl] at hrs
     obtain ⟨a3, c3, rfl⟩ := (Reads.of_owns hown).shape
     have hbel2 : Below W2.heap.size W2 wr := by rw [hD.out]; exact hbel
     have htC := A0 (n := 6) (Ab hbel2 hrC.out) (hfC.out.of_block (hbel.block _ hcl)) rfl
     have hfin : Fr (fun k => k = w.heap.size + 1) wr (wr.setCells (w.heap.size + 1) 0 [.int .i64 5, .string ⟨#[]⟩, .int .i64 0, .float .f64 0, .bool false, .slice a3 j c3]) := Fr.setCells (S := fun k => k = w.heap.size + 1) (fun _ => rfl) _ _ _ (Fr.refl _ wr)
     have hrR : (wr.setCells (w.heap.size + 1) 0 [.int .i64 5, .string ⟨#[]⟩, .int .i64 0, .float .f64 0, .bool false, .slice a3 j c3]).rangeAt (w.heap.size + 1) 0 [.int .i64 5, .string ⟨#[]⟩, .int .i64 0, .float .f64 0, .bool false, .slice a3 j c3] := World.rangeAt_setCells_same _ _ _ _ htC
     replace hown := Hd hown
     replace hrs := Hd hrs
     replace hr := Hd hr
     replace htC := Hd htC
     replace hrR := Hd hrR
     replace hfin := Hd hfin
     replace hbel := Hd hbel
     clear hbel2
     go_wp2_with (first
       | (refine wpList_load_mid rfl 26 _ rfl D 0 rfl _ _ hr.out Tryz.underlying26 rfl Af ?_)
       | (refine wpList_store_mid rfl 26 _ _ rfl (w.heap.size + 1) 0 _ rfl rfl htC.out Af (one6 _ _ _ _ _ _ _ _) ?_))
     refine bodyPost_ret (Am (v := .agg #[.int .i64 5, .string ⟨#[]⟩, .int .i64 0, .float .f64 0, .bool false, .slice a3 j c3]) rfl rfl (run_loadVar_mid (P := Tryz.prog) _ _ 0 26 _ _ hrR.out Tryz.underlying26 rfl Af)) rfl ?_
     have hll : (v.list.map V.down).length = j := by rw [List.length_map, <- en.out]
     have hrv := RV.of_row (v := .mk 5 ⟨#[]⟩ 0 0 false (v.list.map V.down)) hll.symm (Ba hown.out hfin.out (fun q hq e => by have := (Ae hown.out q hq).1; omega)) ((hrs.out.mono (fun ad u h => let ⟨h1, h2, h3⟩ := B0 h; Dy (hfin.out.cell h1 (fun e => by omega)) h2 h3)).mono Eh)
     refine ⟨a3, c3, ?_, ?_, (hb2.out.trans (hbel.out.mono (by omega))).trans (hfin.out.below (by have := hbel.out.size; omega) (fun q hq e => by omega))⟩
     · rw [hdn.out]
       show _ = Ending.returned (.agg #[.int .i64 5, .string ⟨#[]⟩, .int .i64 0, .float .f64 0, .bool false, .slice a3 (v.list.map V.down).length c3])
       rw [hll]
     · rw [hdn.out]
       show RV _ (Ad 5 ⟨#[]⟩ 0 0 false a3 (v.list.map V.down).length c3) _
       rw [hll]
       exact hrv.mono (Bm (by omega))
theorem down_any (v : V) : ∀ (k : Int) (t : ByteArray) (i : Int) (r : Nat) (f : Bool) (a : Option Addr) (n cap : Nat) (d : Int) (w : World), DownH v k t i r f a n cap d w ->
   Calls Tryz.prog 31 #[.agg #[.int .i64 k, .string t, .int .i64 i, .float .f64 r, .bool f, .slice a n cap]] w (Bx v w) := by
 induction v using V.ind with
 | h v ih =>
 intro k t i r f a n cap d w hp
 have hk : 1 <= k /\ k <= 14 := by
   have hfe := hp.fine
   rw [V.fine_eq, Bool.and_eq_true, Bool.and_eq_true] at hfe
   rw [hp.val.len.1]
   exact (Ao hfe.1.1).kind
 rcases (by omega : k = 1 \/ k = 2 \/ k = 9 \/ k = 3 \/ k = 7 \/ k = 8 \/ k = 6 \/ k = 4 \/ k = 10 \/ k = 11 \/ k = 12 \/ k = 5 \/ k = 13 \/ k = 14) with rfl | rfl | rfl | rfl | rfl | rfl | rfl | rfl | rfl | rfl | rfl | rfl | rfl | rfl
 · exact down_1 hp
 · exact down_2 hp
 · exact down_9 hp
 · exact down_3 hp
 · exact down_7 hp
 · exact down_8 hp
 · exact down_6 hp
 · exact down_4 hp
 · exact down_10 hp
 · exact down_11 hp
 · exact down_12 ih hp
 · exact down_5 ih hp
 · exact down_13 ih hp
 · exact down_14 ih hp
end R2
end Go.Proofs.YtagkgfniihiinaaGreatDoor
