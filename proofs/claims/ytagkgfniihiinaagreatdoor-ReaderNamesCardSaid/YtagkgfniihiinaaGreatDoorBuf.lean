/- A buffer of bytes that begins anywhere in its block: cut at its head, and more bytes behind it (no program in sight). -/
import Derived.Test.YtagkgfniihiinaaGreatDoorBase
import Derived.Lib.SlBytesRow
import Derived.Lib.AppendStr
import Derived.Deep.AppendSrc
namespace Go.Proofs.YtagkgfniihiinaaGreatDoor
open Go.RowKit

/-- A buffer of one's own (its block is not below B): nil, or from somewhere in a block on, with room behind it or none. -/
def Buf (B : Nat) (w : World) (v : Value) (s : ByteArray) : Prop :=
  (v = .slice none 0 0 ∧ s.size = 0) ∨
  ∃ b o cap, v = .slice (some ⟨b, o, none⟩) s.size cap ∧ B ≤ b ∧ b < w.heap.size ∧ s.size ≤ cap ∧ cap ≤ maxLen ∧ Lib.Bytes w b o s ∧ ∀ j, s.size ≤ j → j < cap → (w.cell? ⟨b, o + j, none⟩).isSome = true ∧ w.frozen? ⟨b, o + j, none⟩ = false
theorem Buf.nil (B : Nat) (w : World) : Buf B w (.slice none 0 0) ⟨#[]⟩ := .inl ⟨rfl, rfl⟩
theorem Buf.block {B : Nat} {w : World} {v : Value} {s : ByteArray} (h : Buf B w v s) : ∀ k, v.ownBlock = some k → B ≤ k ∧ k < w.heap.size := by
  intro k hk
  rcases h with ⟨rfl, _⟩ | ⟨b, o, cap, rfl, h1, h2, _⟩
  · cases hk
  · have : b = k := by simpa [Value.ownBlock] using hk
    subst this; exact ⟨h1, h2⟩
theorem Buf.of_block {B : Nat} {w w' : World} {v : Value} {s : ByteArray} (h : Buf B w v s) (hs : w.heap.size ≤ w'.heap.size) (hb : ∀ k, v.ownBlock = some k → w'.heap[k]? = w.heap[k]?) : Buf B w' v s := by
  rcases h with h | ⟨b, o, cap, rfl, h1, h2, h3, h4, h5, h6⟩
  · exact .inl h
  · have e := hb b rfl
    refine .inr ⟨b, o, cap, rfl, h1, Nat.lt_of_lt_of_le h2 hs, h3, h4, fun i hi => ?_, fun j a1 a2 => ?_⟩
    · rw [World.cell?_of_block (w := w) e]; exact h5 i hi
    · rw [World.cell?_of_block (w := w) e, World.frozen?_of_block (w := w) e]; exact h6 j a1 a2
theorem Buf.fr {B : Nat} {w w' : World} {v : Value} {s : ByteArray} {S : Nat → Prop} (h : Buf B w v s) (hf : Fr S w w') (hS : ∀ k, v.ownBlock = some k → ¬ S k) : Buf B w' v s :=
  h.of_block hf.size fun k hk => hf.block k (h.block k hk).2 (hS k hk)
theorem Buf.below {B : Nat} {w w' : World} {v : Value} {s : ByteArray} (h : Buf B w v s) (hb : Below w.heap.size w w') : Buf B w' v s :=
  h.of_block hb.size fun k hk => hb.block k (h.block k hk).2
theorem Buf.mono {B B' : Nat} {w : World} {v : Value} {s : ByteArray} (h : Buf B w v s) (hB : B' ≤ B) : Buf B' w v s := by
  rcases h with h | ⟨b, o, cap, h0, h1, h2⟩
  · exact .inl h
  · exact .inr ⟨b, o, cap, h0, Nat.le_trans hB h1, h2⟩
/-- What it looks like. -/
theorem Buf.shape {B : Nat} {w : World} {v : Value} {s : ByteArray} (h : Buf B w v s) : ∃ a c, v = .slice a s.size c ∧ s.size ≤ c := by
  rcases h with ⟨rfl, h0⟩ | ⟨b, o, cap, rfl, _, _, h3, _⟩
  · exact ⟨none, 0, by rw [h0], by omega⟩
  · exact ⟨_, _, rfl, h3⟩
/-- A buffer without its first u bytes. -/
theorem Buf.drop {B : Nat} {w : World} {a : Option Addr} {n c : Nat} {s : ByteArray} (h : Buf B w (.slice a n c) s) {u : Nat} (hu : u ≤ s.size) : n = s.size ∧ Buf B w (sliced a u n c 1) (s.extract u s.size) := by
  have hz : (s.extract u s.size).size = s.size - u := by rw [ByteArray.size_extract]; omega
  rcases h with ⟨h1, h0⟩ | ⟨b, o, cap, h0, h1, h2, h3, h4, h5, h6⟩
  · cases h1
    have : u = 0 := by omega
    subst this
    exact ⟨h0.symm, .inl ⟨by simp [sliced], by omega⟩⟩
  · cases h0
    refine ⟨rfl, ?_⟩
    by_cases hc : c = u
    · have : u = s.size := by omega
      subst this
      refine .inr ⟨b, o, 0, by simp [sliced, hc, hz], h1, h2, by omega, Nat.zero_le _, fun i hi => by omega, fun j _ hj => by omega⟩
    · refine .inr ⟨b, o + u, c - u, ?_, h1, h2, by omega, by omega, fun i hi => ?_, fun j a1 a2 => ?_⟩
      · rw [hz]
        unfold sliced
        rw [if_neg hc, Option.map_some, Nat.mul_one]
        congr 2
        unfold Addr.add
        split
        · rename_i h; subst h; rfl
        · rfl
      · have := h5 (u + i) (by omega)
        rw [show o + u + i = o + (u + i) by omega, this]
        congr 3
        exact congrArg UInt8.toNat (ByteArray.getElem_extract (by omega)).symm
      · have := h6 (u + j) (by omega) (by omega)
        rw [show o + u + j = o + (u + j) by omega]; exact this
theorem cells_at (t : ByteArray) (j : Nat) (h : j < t.size) : (Lib.strCells t)[j]? = some (.int .u8 ((t[j]'h).toNat : Int)) := by
  rw [Lib.strCells, List.getElem?_map, Array.getElem?_toList, Array.getElem?_eq_getElem h]; rfl
theorem bytes_cells {w : World} {b o : Nat} {s : ByteArray} (h : ∀ j, j < s.size → w.cell? ⟨b, o + j, none⟩ = (Lib.strCells s)[j]?) : Lib.Bytes w b o s := fun i hi => by rw [h i hi, cells_at s i hi]
theorem cells_of_bytes {w : World} {b o : Nat} {s : ByteArray} (h : Lib.Bytes w b o s) : ∀ j u, (Lib.strCells s)[j]? = some u → w.cell? ⟨b, o + j, none⟩ = some u := fun j u hu => by
  have hj : j < s.size := by
    have := (List.getElem?_eq_some_iff.1 hu).1
    rwa [Lib.strCells_length] at this
  rw [h j hj, ← cells_at s j hj]; exact hu
theorem add_zr (b o j : Nat) : (⟨b, o, none⟩ : Addr).add j = ⟨b, o + j, none⟩ := by
  unfold Addr.add
  split
  · rename_i h; subst h; rfl
  · rfl
theorem os_sets (w : World) (g o : Nat) (vs : List Value) : Fr (fun k => k = g) w (w.setCells g o vs) := Fr.setCells (S := fun k => k = g) (fun _ => rfl) _ _ _ (Fr.refl _ _)
/-- Nothing is appended. -/
theorem append_none {P : Program} (w : World) (t tx ty e : TypeId) (i : TypeInfo) (ht : P.underlying t = some (.slice e)) (hi : P.info? e = some i) (base : Option Addr) (sLen sCap : Nat) (hle : sLen ≤ sCap) (x : Value) (hs : Src P i.size tx x 0 [] w) :
    (Builtin.append_ #[t, tx] ty #[.slice base sLen sCap, x]).run P w = .ok (.slice base sLen sCap) w := by
  have hcells := hs.cells
  rcases hs.kind with ⟨e', hk⟩ | hk <;> cases base <;> simp [Builtin.append_, run_underlying ht, run_underlying hk, sizeOf, typeInfo, hi, hs.len, hle, hcells, storeCells]
/-- MORE BYTES BEHIND A BUFFER. -/
theorem run_append_buf {P : Program} {B : Nat} {w : World} {v x : Value} {s t : ByteArray} (ty : TypeId) {tt tx e : TypeId} (E : Elem P tt e 1 1) (h : Buf B w v s) (hs : Src P 1 tx x t.size (Lib.strCells t) w)
    (hn : s.size + t.size ≤ 140737488355328) (hB : B ≤ w.heap.size) :
    ∃ v' w', (Builtin.append_ #[tt, tx] ty #[v, x]).run P w = .ok v' w' ∧ Buf B w' v' (s ++ t) ∧ Fr (fun k => v.ownBlock = some k) w w' ∧ ∀ k, v'.ownBlock = some k → v.ownBlock = some k ∨ w.heap.size ≤ k := by
  obtain ⟨ht, _, _, i, z, hi, hz, hi1, hi2, hz1⟩ := E
  have hsz : (s ++ t).size = s.size + t.size := ByteArray.size_append
  have grow : ∀ (a : Option Addr) (c : Nat), v = .slice a s.size c → c < s.size + t.size → (Builtin.firstCells 1 s.size (.slice a s.size c)).run P w.drew = .ok (Lib.strCells s).toArray w.drew →
      ∃ v' w', (Builtin.append_ #[tt, tx] ty #[v, x]).run P w = .ok v' w' ∧ Buf B w' v' (s ++ t) ∧ Fr (fun k => v.ownBlock = some k) w w' ∧ ∀ k, v'.ownBlock = some k → v.ownBlock = some k ∨ w.heap.size ≤ k := by
    rintro a c rfl hg hold
    rw [← hi1] at hold hs
    have hrun := run_append_grow_src (P := P) w tt tx ty e i z ht hi hz a s.size c (Lib.strCells s) hold x t.size (Lib.strCells t) hs hg (by omega) (growslice_fits hg (by rw [hi2, Nat.mul_one]; exact hn))
    have hge := grownCap_ge w (s.size + t.size) c e
    have hcm := grownCap_le_maxLen w (s.size + t.size) c e (by unfold maxLen; omega)
    have hL : (Lib.strCells s ++ Lib.strCells t).length = s.size + t.size := by rw [List.length_append, Lib.strCells_length, Lib.strCells_length]
    refine ⟨_, _, hrun, .inr ⟨w.heap.size, 0, _, by rw [hsz], hB, by simp, by omega, hcm, bytes_cells fun j hj => ?_, fun j a1 a2 => ?_⟩, ⟨rfl, rfl, rfl, by simp, fun k hk _ => Below.heap_alloc w.drew _ k hk⟩, fun k hk => .inr ?_⟩
    · rw [Nat.zero_add]
      have e1 := World.cell?_alloc_new w.drew ((Lib.strCells s ++ Lib.strCells t).toArray ++ Builtin.zeroCells z.cells (grownCap w (s.size + t.size) c e - (s.size + t.size))) e j
      refine Eq.trans e1 ?_
      rw [Array.getElem?_append_left (by rw [List.size_toArray, hL]; omega), List.getElem?_toArray, Lib.strCells, Lib.strCells, Lib.strCells, ByteArray.data_append, Array.toList_append, List.map_append]
    · rw [Nat.zero_add]
      have e1 := World.cell?_alloc_new w.drew ((Lib.strCells s ++ Lib.strCells t).toArray ++ Builtin.zeroCells z.cells (grownCap w (s.size + t.size) c e - (s.size + t.size))) e j
      refine ⟨?_, World.frozen?_alloc_new w.drew _ _ j⟩
      have hsz2 : ((Lib.strCells s ++ Lib.strCells t).toArray ++ Builtin.zeroCells z.cells (grownCap w (s.size + t.size) c e - (s.size + t.size))).size = grownCap w (s.size + t.size) c e := by
        rw [Array.size_append, List.size_toArray, hL, size_zeroCells, hz1, Nat.mul_one]; omega
      rw [show w.heap.size = w.drew.heap.size from rfl, e1, Array.getElem?_eq_getElem (by rw [hsz2]; exact a2)]
      rfl
    · have : w.heap.size = k := by simpa [Value.ownBlock] using hk
      omega
  rcases h with ⟨rfl, h0⟩ | ⟨b, o, cap, rfl, h1, h2, h3, h4, h5, h6⟩
  · have hse : s = ⟨#[]⟩ := ByteArray.ext (Array.eq_empty_of_size_eq_zero h0)
    subst hse
    by_cases ht0 : t.size = 0
    · have hte : t = ⟨#[]⟩ := ByteArray.ext (Array.eq_empty_of_size_eq_zero ht0)
      subst hte
      refine ⟨.slice none 0 0, w, ?_, .inl ⟨rfl, rfl⟩, Fr.refl _ _, fun k hk => by cases hk⟩
      rw [← hi1] at hs
      exact append_none (P := P) w tt tx ty e i ht hi none 0 0 (Nat.le_refl _) x hs
    · exact grow none 0 rfl (by omega) (run_firstCells_none w.drew 1 0 0 0)
  · by_cases hroom : s.size + t.size ≤ cap
    · rw [← hi1] at hs
      have hl : (Lib.strCells t).length = t.size := Lib.strCells_length t
      have hr := run_append_room_src (P := P) w tt tx ty e i ht hi b o s.size cap x t.size (Lib.strCells t) hs hroom
        (fun j hj => by rw [hi1, Nat.mul_one, Nat.add_assoc]; exact (h6 (s.size + j) (by omega) (by omega)).1)
        (fun j hj => by rw [hi1, Nat.mul_one, Nat.add_assoc]; exact (h6 (s.size + j) (by omega) (by omega)).2)
      rw [hi1, Nat.mul_one] at hr
      have hfr := os_sets w b (o + s.size) (Lib.strCells t)
      refine ⟨_, _, hr, .inr ⟨b, o, cap, by rw [hsz], h1, Nat.lt_of_lt_of_le h2 hfr.size, by omega, h4, bytes_cells fun j hj => ?_, fun j a1 a2 => ⟨?_, ?_⟩⟩, hfr.mono (fun k _ e => by rw [e]; rfl), fun k hk => .inl hk⟩
      · rw [hsz] at hj
        rw [show Lib.strCells (s ++ t) = Lib.strCells s ++ Lib.strCells t by rw [Lib.strCells, Lib.strCells, Lib.strCells, ByteArray.data_append, Array.toList_append, List.map_append]]
        by_cases hjs : j < s.size
        · rw [World.cell?_setCells_out b _ _ _ _ (fun _ _ => .inl (by show o + j < o + s.size; omega)), List.getElem?_append_left (by rw [Lib.strCells_length]; exact hjs), h5 j hjs, cells_at s j hjs]
        · have := World.cell?_setCells_in b (Lib.strCells t) (o + s.size) w (fun q hq => by rw [Nat.add_assoc]; exact (h6 (s.size + q) (by omega) (by omega)).1) (j - s.size) (by omega)
          rw [show o + s.size + (j - s.size) = o + j by omega] at this
          rw [this, List.getElem?_append_right (by rw [Lib.strCells_length]; omega), Lib.strCells_length s, List.getElem?_eq_getElem]
      · rw [hsz] at a1
        rw [World.cell?_setCells_out b _ _ _ _ (fun _ _ => .inr (by show o + s.size + (Lib.strCells t).length ≤ o + j; omega))]
        exact (h6 j (by omega) a2).1
      · rw [World.frozen?_setCells]; exact (h6 j (by omega) a2).2
    · exact grow (some ⟨b, o, none⟩) cap rfl (by omega) (run_firstCells_some w.drew 1 s.size ⟨b, o, none⟩ s.size cap (Lib.strCells s) (by rw [Lib.strCells_length, Nat.mul_one]) (fun j u hu => by
        rw [add_zr]; exact cells_of_bytes h5 j u hu))
end Go.Proofs.YtagkgfniihiinaaGreatDoor
