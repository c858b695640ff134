/- strings.byteReplacer: Replace. -/
import Derived.Test.YtagkgfniihiinaaGreatDoorRplC
import Derived.Lib.ConvBytes
import Derived.Lib.SlBytesRow
namespace Go.Proofs.YtagkgfniihiinaaGreatDoor
open Go.RowKit
def Bt (b : UInt8) : UInt8 := if b = 13 \/ b = 10 then 32 else b
theorem blankU_nat (b : UInt8) : D9 b.toNat = (Bt b).toNat := by
 unfold D9 Bt
 have e1 : b.toNat = 13 ↔ b = 13 := ⟨fun h => UInt8.toNat_inj.1 h, fun h => by rw [h]; rfl⟩
 have e2 : b.toNat = 10 ↔ b = 10 := ⟨fun h => UInt8.toNat_inj.1 h, fun h => by rw [h]; rfl⟩
 by_cases h : b = 13 \/ b = 10
 · rw [if_pos h, if_pos (h.imp e1.2 e2.2)]; rfl
 · rw [if_neg h, if_neg (fun k => h (k.imp e1.1 e2.1))]
def Ay (s : ByteArray) : ByteArray := ⟨s.data.map Bt⟩
theorem C7 (s : ByteArray) : (Ay s).size = s.size := by show (s.data.map Bt).size = s.data.size; simp
theorem blankB_get (s : ByteArray) (i : Nat) (h : i < s.size) (h' : i < (Ay s).size) : (Ay s)[i]'h' = Bt (s[i]'h) := by
 exact Array.getElem_map ..
theorem blankB_id (s : ByteArray) (h : ∀ k (hk : k < s.size), Bt (s[k]'hk) = s[k]'hk) : Ay s = s := by
 apply ByteArray.ext
 apply Array.ext
 · simp [Ay]
 · intro i h1 h2
   simp only [Ay, Array.getElem_map]
   exact h i h2
def Mkd (w : World) (m n : Nat) : Prop := ∃ C t c, w.heap[m]? = some (.cells C t (c, c + 1)) /\ n <= c
theorem Mkd.frz {w : World} {m n : Nat} (h : Mkd w m n) (k : Nat) (hk : k < n) : w.frozen? ⟨m, k, none⟩ = false := by
 obtain ⟨C, t, c, h, hc⟩ := h
 have : ¬ c <= k := by omega
 simp [World.frozen?, h, this]
theorem Mkd.setCell {w : World} {m n : Nat} (h : Mkd w m n) (a : Addr) (v : Value) : Mkd (w.setCell a v) m n := by
 obtain ⟨C, t, c, h, hc⟩ := h
 simp only [Mkd, World.setCell, Array.getElem?_modify]
 split
 · exact ⟨_, t, c, by rw [h]; rfl, hc⟩
 · exact ⟨C, t, c, h, hc⟩
theorem Mkd.new (w : World) (s : ByteArray) : Mkd (Lib.bytesWorld w 5 s) w.heap.size s.size :=
 ⟨_, _, _, Lib.bytesWorld_at_new w 5 s, by
   have : s.data.size = s.size := rfl
   rw [Lib.bytesCells, Array.size_append, Array.size_map]; omega⟩
theorem Eb (w : World) (e : TypeId) (s : ByteArray) : Below w.heap.size w (Lib.bytesWorld w e s) := by
 have h1 : (Lib.bytesWorld w e s).heap.size = w.heap.size + 1 := Lib.bytesWorld_size w e s
 refine ⟨?_, ?_, ?_, by omega, fun k hk => Lib.bytesWorld_at_old w e s k hk⟩
 all_goals (unfold Lib.bytesWorld World.freeze; split <;> rfl)
def BufI (s : ByteArray) (B j : Nat) (b : Value) (w : World) : Prop :=
 (b = .slice none 0 0 /\ ∀ k (hk : k < s.size), k < j -> Bt (s[k]'hk) = s[k]'hk) \/
 ∃ m c, b = .slice (some ⟨m, 0, none⟩) s.size c /\ B <= m /\ Mkd w m s.size /\ ∀ k (hk : k < s.size), w.cell? ⟨m, k, none⟩ = some (.int .u8 (((if k < j then Bt (s[k]'hk) else s[k]'hk) : UInt8).toNat : Nat))
set_option maxRecDepth 100000 in
theorem Er {g : Nat} {w : World} (s : ByteArray) (hT : Tbl w g D9) (hn : s.size <= 1000000000000) :
   Calls Tryz.prog 281 #[.pointer (some ⟨g, 0, none⟩), .string s] w fun e w' => e = .returned (.string (Ay s)) /\ Below w.heap.size w w' := by
 have hgl := hT.lt
 replace hT := Hd hT
 obtain ⟨B, hB⟩ : ∃ B, w.heap.size = B := ⟨_, rfl⟩
 rw [hB] at hgl ⊢
 have hnil : ∀ (a : Option Addr) (n c : Nat) (W : World), (binOp .eql 27 (.slice a n c) (.slice none 0 0)).run Tryz.prog W = .ok (.bool a.isNone) W := fun a n c W => Lib.run_eql_slice_nil W _ _ a n c 0 0 Tryz.underlying27
 go_enter Tryz.func281, Tryz.ntmps281
 go_wp2_with fail
 go_loopw [5, 6] (fun b i wr => ∃ j : Nat, j <= s.size /\ i = .int .i64 j /\ BufI s B j b wr /\ Below B w wr) (fun _ i _ => s.size - (intOf i).toNat)
 case atStart => exact ⟨0, Nat.zero_le _, rfl, .inl ⟨rfl, fun k _ h => absurd h (by omega)⟩, Below.refl _ _⟩
 case round =>
   obtain ⟨j, hj, rfl, hI, hb⟩ := hrel
   have hTr : Hid (Tbl wr g D9) := Hd (hT.out.of (hb.block g hgl))
   have hBw : B <= wr.heap.size := hB ▸ hb.size
   have hgm : g < wr.heap.size := by omega
   by_cases hlt : j < s.size
   · have hlti : (j : Int) < s.size := by omega
     obtain ⟨x, hx⟩ : ∃ x : UInt8, s[j]'hlt = x := ⟨_, rfl⟩
     have hx1 : (x.toNat : Int) < 256 := by have := x.toNat_lt; omega
     have hx2 : x.toNat < 256 := by have := x.toNat_lt; omega
     have ht := hTr.out x.toNat (by have := x.toNat_lt; omega)
     rw [blankU_nat] at ht
     replace hb := Hd hb
     rcases hI with ⟨rfl, hI⟩ | ⟨m, c, rfl, hm, hk, hI⟩
     · replace hI := Hd hI
       by_cases hbx : Bt x = x
       · rw [hbx] at ht
         have hne : ((x.toNat : Int) != (x.toNat : Int)) = false := by simp
         go_wp2_with fail
         go_round
         case measure => simp [intOf]; omega
         case rel =>
           refine ⟨j + 1, by omega, rfl, .inl ⟨rfl, fun k hk hkj => ?_⟩, hb.out⟩
           by_cases e : k = j
           · subst e; rw [hx]; exact hbx
           · exact hI.out k hk (by omega)
       · have hne : (((Bt x).toNat : Int) != (x.toNat : Int)) = true := bne_iff_ne.2 fun h => hbx (UInt8.toNat_inj.1 (by omega))
         have hcv := Lib.run_convert_string_bytes (P := Tryz.prog) wr 9 27 5 s Tryz.underlying9 Tryz.underlying27 Tryz.underlying5
         have hk := Mkd.new wr s
         have hc0 := Lib.bytesWorld_cell wr 5 s
         have hb1 := Eb wr 5 s
         obtain ⟨W1, hW⟩ : ∃ W1, W1 = Lib.bytesWorld wr 5 s := ⟨_, rfl⟩
         obtain ⟨c, hc⟩ : ∃ c, c = grownCap wr s.size 0 5 := ⟨_, rfl⟩
         rw [<- hW] at hcv hk hc0 hb1
         rw [<- hc] at hcv
         clear hW hc
         have ht1 : W1.cell? ⟨g, x.toNat, none⟩ = some (.int .u8 ((Bt x).toNat : Nat)) := (hb1.cell hgm).trans ht
         have hz := hk.frz j hlt
         have hcj := hc0 j hlt
         replace hk := Hd hk
         replace hc0 := Hd hc0
         replace hb1 := Hd hb1
         go_wp2_with fail
         go_round
         case measure => simp [intOf]; omega
         case rel =>
           have hb2 : Below B w W1 := hb.out.trans (hb1.out.mono hBw)
           refine ⟨j + 1, by omega, rfl, .inr ⟨_, c, rfl, hBw, hk.out.setCell _ _, fun k hkk => ?_⟩, Fr.below ((Fr.of_below hb2).setCell (fun _ => hBw) _) (by omega) fun i hi => by omega⟩
           by_cases e : k = j
           · subst e
             rw [if_pos (by omega), hx]; exact Ap hcj
           · rw [Ag (fun h => by cases h; exact e rfl), hc0.out k hkk, List.getD, byte_at s k hkk]
             by_cases e2 : k < j
             · rw [if_pos (by omega), hI.out k hkk e2]; rfl
             · rw [if_neg (by omega)]; rfl
     · have hz := hk.frz j hlt
       have hcj := hI j hlt
       replace hI := Hd hI
       replace hk := Hd hk
       by_cases hbx : Bt x = x
       · rw [hbx] at ht
         have hne : ((x.toNat : Int) != (x.toNat : Int)) = false := by simp
         clear hcj
         go_wp2_with fail
         go_round
         case measure => simp [intOf]; omega
         case rel =>
           refine ⟨j + 1, by omega, rfl, .inr ⟨_, c, rfl, hm, hk.out, fun k hkk => ?_⟩, hb.out⟩
           rw [hI.out k hkk]
           by_cases e : k = j
           · subst e; rw [if_neg (by omega), if_pos (by omega), hx, hbx]
           · by_cases e2 : k < j
             · rw [if_pos e2, if_pos (by omega)]
             · rw [if_neg e2, if_neg (by omega)]
       · have hne : (((Bt x).toNat : Int) != (x.toNat : Int)) = true := bne_iff_ne.2 fun h => hbx (UInt8.toNat_inj.1 (by omega))
         rw [if_neg (by omega)] at hcj
         go_wp2_with fail
         go_round
         case measure => simp [intOf]; omega
         case rel =>
           refine ⟨j + 1, by omega, rfl, .inr ⟨_, c, rfl, hm, hk.out.setCell _ _, fun k hkk => ?_⟩, Fr.below ((Fr.of_below hb.out).setCell (fun _ => hm) _) (by omega) fun i hi => by omega⟩
           by_cases e : k = j
           · subst e
             rw [if_pos (by omega), hx]; exact Ap hcj
           · rw [Ag (fun h => by cases h; exact e rfl), hI.out k hkk]
             by_cases e2 : k < j
             · rw [if_pos e2, if_pos (by omega)]
             · rw [if_neg e2, if_neg (by omega)]
   · obtain rfl : j = s.size := by omega
     replace hb := Hd hb
     rcases hI with ⟨rfl, hI⟩ | ⟨m, c, rfl, hm, hk, hI⟩
     · have hid := blankB_id s fun k hk => hI k hk hk
       clear hI
       go_wp2_with fail
       go_ret
       exact ⟨by rw [hid]; rfl, hb.out⟩
     · have hby : Lib.Bytes wr m 0 (Ay s) := fun i hi => by
         have hi' : i < s.size := by rw [<- C7]; exact hi
         rw [Nat.zero_add, hI i hi', if_pos hi', blankB_get s i hi' hi]
       have hcv := Lib.run_convert_whole (P := Tryz.prog) wr 27 5 9 Tryz.underlying27 Tryz.underlying5 Tryz.underlying9 m 0 (Ay s) hby c
       rw [C7] at hcv
       replace hby := Hd hby
       clear hI
       go_wp2_with fail
       go_ret
       exact ⟨rfl, hb.out⟩
end Go.Proofs.YtagkgfniihiinaaGreatDoor
