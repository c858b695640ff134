/- The reader: lists: a round. -/
import Derived.Test.YtagkgfniihiinaaGreatDoorRdK
import Derived.Test.YtagkgfniihiinaaGreatDoorStepA
namespace Go.Proofs.YtagkgfniihiinaaGreatDoor
open Go.RowKit

/-- A list underway: so many values read. -/
structure LS (rp : Rp) (w0 w wr : World) (g b o n cap : Nat) (s : ByteArray) (kk : Int) (at_ uj mj : Nat) (lv : Value) (css : List (List Value)) (lj : List V) : Prop where
  rs : RS rp w0 wr g b o n cap s (at_ + uj) mj
  many : mj ≤ 1000
  own : wr.ownsRow (w.heap.size + 2) 26 6 lv lj.length css.flatten
  vals : RVs (nf (w.heap.size + 2) lv.ownBlock wr) css lj
  full : wr.rangeAt (w.heap.size + 1) 0 [.int .i64 kk, .string ⟨#[]⟩, .int .i64 0, .float .f64 0, .bool false, lv]
  zero : wr.rangeAt w.heap.size 0 [.int .i64 0, .string ⟨#[]⟩, .int .i64 0, .float .f64 0, .bool false, .slice none 0 0]
  blk : Blk wr w.heap.size
  blk1 : Blk wr (w.heap.size + 1)
  fr : Fr (fun k => k = g) w wr
  size : w.heap.size + 2 ≤ wr.heap.size
/-- What is left to read, and what all comes to. -/
def Links (need : Nat → List UInt8 → Prop) (f : Nat → List UInt8 → Out (V × Nat × Nat)) (res : Out (List V × Nat × Nat)) (D : List UInt8) (at_ left uj mj : Nat) (lj : List V) : Prop :=
  (match scanN f left mj (D.drop (at_ + uj)) with
  | .stop q => res = .stop q
  | .got (l, u, m) => res = .got (lj ++ l, uj + u, m)) ∧ needN need f left mj (D.drop (at_ + uj))
theorem Links.need {need : Nat → List UInt8 → Prop} {f : Nat → List UInt8 → Out (V × Nat × Nat)} {res : Out (List V × Nat × Nat)} {D : List UInt8} {at_ left uj mj : Nat} {lj : List V} (h : Links need f res D at_ (left + 1) uj mj lj) : need mj (D.drop (at_ + uj)) := h.2.1
theorem Links.stop {need : Nat → List UInt8 → Prop} {f : Nat → List UInt8 → Out (V × Nat × Nat)} {res : Out (List V × Nat × Nat)} {D : List UInt8} {at_ left uj mj q : Nat} {lj : List V} (h : Links need f res D at_ (left + 1) uj mj lj) (hf : f mj (D.drop (at_ + uj)) = .stop q) : res = .stop q := by
  replace h := h.1
  rw [scanN, hf] at h
  exact h
theorem Links.next {need : Nat → List UInt8 → Prop} {f : Nat → List UInt8 → Out (V × Nat × Nat)} {res : Out (List V × Nat × Nat)} {D : List UInt8} {at_ left uj mj u m : Nat} {lj : List V} {v : V} (h : Links need f res D at_ (left + 1) uj mj lj) (hf : f mj (D.drop (at_ + uj)) = .got (v, u, m)) :
    Links need f res D at_ left (uj + u) m (lj ++ [v]) := by
  have hnd := h.2.2 v u m hf
  rw [List.drop_drop] at hnd
  replace h := h.1
  unfold Links
  refine ⟨?_, by rw [show at_ + (uj + u) = at_ + uj + u by omega]; exact hnd⟩
  rw [scanN, hf] at h
  dsimp only at h
  rw [List.drop_drop] at h
  rw [show at_ + (uj + u) = at_ + uj + u by omega]
  cases hs : scanN f left m (D.drop (at_ + uj + u)) with
  | stop q => rw [hs] at h; exact h
  | got x =>
    obtain ⟨l, u2, m2⟩ := x
    rw [hs] at h
    dsimp only at h ⊢
    rw [h]
    simp only [List.append_assoc, List.singleton_append, Nat.add_assoc]
theorem Links.last {need : Nat → List UInt8 → Prop} {f : Nat → List UInt8 → Out (V × Nat × Nat)} {res : Out (List V × Nat × Nat)} {D : List UInt8} {at_ uj mj : Nat} {lj : List V} (h : Links need f res D at_ 0 uj mj lj) : res = .got (lj, uj, mj) := by
  replace h := h.1
  rw [scanN] at h
  simpa using h
theorem Links.start {need : Nat → List UInt8 → Prop} {f : Nat → List UInt8 → Out (V × Nat × Nat)} {D : List UInt8} {at_ n m : Nat} (hnd : needN need f n m (D.drop at_)) : Links need f (scanN f n m (D.drop at_)) D at_ n 0 m [] := by
  unfold Links
  rw [Nat.add_zero]
  refine ⟨?_, hnd⟩
  cases scanN f n m (D.drop at_) with
  | stop q => rfl
  | got x => obtain ⟨l, u, m2⟩ := x; simp
end Go.Proofs.YtagkgfniihiinaaGreatDoor
