/- WordsCases: its plain law. -/
import Derived.Test.YtdhojdkeidilfaaDoorKeysL17
import Derived.Deep.AppendLies
import Derived.Laws.OwnMore
namespace Go.Proofs.YtdhojdkeidilfaaDoor
open Go.RowKit

/-- Every second byte made small. -/
def mixAt (j : Nat) (b : UInt8) : UInt8 := if j % 2 = 0 then UInt8.ofNat (b.toNat + 32) else b
def mixL (l : List UInt8) : List UInt8 := l.mapIdx mixAt
def mixB (s : ByteArray) : ByteArray := ⟨(mixL s.data.toList).toArray⟩
def Spec.tup (s : Spec) : ByteArray × Int × Int × Int × Int × Int × Int := (s.name, s.kind, s.least, s.most, s.first, s.last, s.step)
theorem Spec.of_tup {a b : Spec} (h : a.tup = b.tup) : a = b := by
  cases a; cases b; simp only [Spec.tup, Prod.mk.injEq] at h; simp [h]
theorem names_great : ∀ x ∈ words17, ∀ b ∈ x.name.data.toList, 65 ≤ b.toNat ∧ b.toNat ≤ 90 := by decide
theorem upper_name : ∀ x ∈ words17, upB x.name = x.name := by decide
theorem found_tup : ∀ x ∈ words17, ((found words17 x.name).1.name = x.name ∧ (found words17 x.name).1.kind = x.kind) ∧ ((found words17 x.name).1.least = x.least ∧ (found words17 x.name).1.most = x.most) := by decide +kernel
theorem found_tup2 : ∀ x ∈ words17, ((found words17 x.name).1.first = x.first ∧ (found words17 x.name).1.last = x.last) ∧ (found words17 x.name).1.step = x.step := by decide +kernel
theorem found_tup3 : ∀ x ∈ words17, (found words17 x.name).2 = true := by decide +kernel
theorem found_name : ∀ x ∈ words17, (found words17 x.name).1.tup = x.tup ∧ (found words17 x.name).2 = true := fun x hx => by
  obtain ⟨⟨h1, h2⟩, h3, h4⟩ := found_tup x hx
  obtain ⟨⟨h5, h6⟩, h7⟩ := found_tup2 x hx
  exact ⟨by simp only [Spec.tup, h1, h2, h3, h4, h5, h6, h7], found_tup3 x hx⟩
theorem upb_mix (j : Nat) (b : UInt8) (h1 : 65 ≤ b.toNat) (h2 : b.toNat ≤ 90) : upb (mixAt j b) = b := by
  have h3 : (UInt8.ofNat (b.toNat + 32)).toNat = b.toNat + 32 := by rw [UInt8.toNat_ofNat']; omega
  unfold mixAt
  split
  · unfold upb
    rw [if_pos (by rw [h3]; omega), h3, Nat.add_sub_cancel, UInt8.ofNat_toNat]
  · unfold upb
    rw [if_neg (by omega)]
theorem upper_mix {x : Spec} (hx : x ∈ words17) : upB (mixB x.name) = x.name := by
  have h := names_great x hx
  rw [upB, upL, mixB]
  have : (mixL x.name.data.toList).map upb = x.name.data.toList := by
    apply List.ext_getElem
    · simp [mixL]
    · intro j h1 h2
      obtain ⟨h3, h4⟩ := h _ (List.getElem_mem h2)
      simp only [mixL, List.getElem_map, List.getElem_mapIdx]
      exact upb_mix j _ h3 h4
  simp only [List.toList_toArray]
  rw [this]
theorem checkF_name {x : Spec} (hx : x ∈ words17) {k : ByteArray} (hk : upB k = x.name) (ks : List ByteArray) : checkF (k :: ks) = checkS x (ks.length + 1 : Nat) := by
  obtain ⟨h1, h2⟩ := found_name x hx
  rw [checkF, hk, h2, if_neg (by simp), Spec.of_tup h1]
  rfl
theorem mixB_len (s : ByteArray) : (mixB s).size = s.size := by
  show (mixL s.data.toList).toArray.size = s.data.size
  simp [mixL]
theorem bytes_new (s : ByteArray) (w : World) (cap : Nat) :
    (∀ (j : Nat) (hj : j < s.data.toList.length), ((w.alloc (.cells (bytesRow s cap) 5 ((bytesRow s cap).size, (bytesRow s cap).size + 1))).drew).cell? ⟨w.heap.size, j, none⟩ = some (.int .u8 (s.data.toList[j].toNat : Int))) ∧
    (∀ (j : Nat) (hj : j < s.data.toList.length), ((w.alloc (.cells (bytesRow s cap) 5 ((bytesRow s cap).size, (bytesRow s cap).size + 1))).drew).frozen? ⟨w.heap.size, j, none⟩ = false) ∧
    Below w.heap.size w ((w.alloc (.cells (bytesRow s cap) 5 ((bytesRow s cap).size, (bytesRow s cap).size + 1))).drew) := by
  refine ⟨fun j hj => ?_, fun j hj => ?_, ((Below.refl _ _).alloc (Nat.le_refl _) _).drew⟩
  · have := World.cell?_alloc_mark w (bytesRow s cap) 5 ((bytesRow s cap).size, (bytesRow s cap).size + 1) j
    rw [bytesRow_at s cap j (by simpa using hj)] at this
    simpa using this
  · have h1 := World.frozen?_alloc_mark w (bytesRow s cap) 5 (bytesRow s cap).size ((bytesRow s cap).size + 1) j
    have h2 : j < (bytesRow s cap).size := by
      rcases Nat.lt_or_ge j (bytesRow s cap).size with h | h
      · exact h
      · have h3 := bytesRow_at s cap j (by simpa using hj)
        rw [Array.getElem?_eq_none h] at h3; simp at h3
    have h4 : decide ((bytesRow s cap).size ≤ j) = false := decide_eq_false (by omega)
    rw [h4] at h1
    exact h1
def argsL (k : ByteArray) (t : Nat) : List ByteArray := k :: List.replicate t ⟨#[120]⟩
theorem argsL_succ (k : ByteArray) (t : Nat) : argsL k (t + 1) = argsL k t ++ [⟨#[120]⟩] := by rw [argsL, argsL, List.replicate_succ']; rfl
theorem argsL_len (k : ByteArray) (t : Nat) : (argsL k t).length = t + 1 := by simp [argsL]
theorem owns_below {w w' : World} {B base e size n : Nat} {v : Value} {xs : List Value} (h : w.ownsRow base e size v n xs) (hb : Below B w w') (hB : w.heap.size ≤ B) : w'.ownsRow base e size v n xs := by
  refine ⟨h.1, ?_⟩
  rcases h.2 with h2 | ⟨g, cap, cur, e1, e2, e3, e4⟩
  · exact Or.inl h2
  · refine Or.inr ⟨g, cap, cur, e1, e2, ?_, e4⟩
    have hg : g < w.heap.size := by
      rcases Nat.lt_or_ge g w.heap.size with h | h
      · exact h
      · rw [Array.getElem?_eq_none h] at e3; cases e3
    rw [hb.block g (by omega)]; exact e3
end Go.Proofs.YtdhojdkeidilfaaDoor
