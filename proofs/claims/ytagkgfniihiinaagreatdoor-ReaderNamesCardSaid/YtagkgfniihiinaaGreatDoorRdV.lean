/- The reader: a value, as it is read. -/
import Derived.Test.YtagkgfniihiinaaGreatDoorRdS
namespace Go.Proofs.YtagkgfniihiinaaGreatDoor
open Go.RowKit

/-- A value that is a line; none: it is none. -/
def shortO (ro : Option Nat) (k : Nat) (t : ByteArray) : Option V :=
  if k = 1 ∨ k = 2 ∨ k = 9 then some (leafV k t 0 0 false)
  else if k = 3 then (wP t.data.toList).map fun n => leafV 3 ⟨#[]⟩ n 0 false
  else if k = 7 then ro.map fun r => leafV 7 ⟨#[]⟩ 0 r false
  else if k = 8 then (if t = ⟨#[116]⟩ then some (leafV 8 ⟨#[]⟩ 0 0 true) else if t = ⟨#[102]⟩ then some (leafV 8 ⟨#[]⟩ 0 0 false) else none)
  else if t = ⟨#[]⟩ then some (leafV 6 ⟨#[]⟩ 0 0 false) else none
theorem short_any {w : World} {k : Nat} {t : ByteArray} {o : Option Nat} (hk : k = 1 ∨ k = 2 ∨ k = 9 ∨ k = 3 ∨ k = 7 ∨ k = 8 ∨ k = 6) (ht : t.size ≤ 1000000) (hN : Nums w) (hp : k = 7 → ∀ W, Below w.heap.size w W → Calls Tryz.prog 90 #[.string t] W (RealQ o W)) :
    Calls Tryz.prog 71 #[.int .i64 (k : Int), .string t] w (ShortQ (shortO o k t) w) := by
  unfold shortO
  rcases hk with rfl | rfl | rfl | rfl | rfl | rfl | rfl
  · exact short_1 ht
  · exact short_2 ht
  · exact short_9 ht
  · exact short_3 ht hN
  · exact short_7 (hp rfl)
  · rw [if_neg (by decide), if_neg (by decide), if_neg (by decide), if_pos (by decide)]
    by_cases h1 : t = ⟨#[116]⟩
    · rw [if_pos h1, h1]; exact short_t
    · rw [if_neg h1]
      by_cases h2 : t = ⟨#[102]⟩
      · rw [if_pos h2, h2]; exact short_f
      · rw [if_neg h2]; exact short_8no h1 h2
  · rw [if_neg (by decide), if_neg (by decide), if_neg (by decide), if_neg (by decide)]
    by_cases h1 : t = ⟨#[]⟩
    · rw [if_pos h1, h1]; exact short_6
    · rw [if_neg h1]; exact short_6no h1
/-- What real.Parse comes to at the lines that are known. -/
structure Rp where
  f : List UInt8 → Option Nat
  K : List UInt8 → Prop
instance : CoeFun Rp (fun _ => List UInt8 → Option Nat) := ⟨Rp.f⟩
/-- What a value begins with. -/
inductive Head where
  | stop (e : Nat)
  | leaf (v : V) (used : Nat)
  | list (kind n used : Nat)
def headS (rp : Rp) : List UInt8 → Head
  | [] => .stop 0
  | c :: L =>
    if kindR c = 0 then .stop 51 else
    match lineS L with
    | .stop e => .stop e
    | .got (t, u) =>
      if t = [45, 49] ∧ (kindR c = 4 ∨ kindR c = 5) then .leaf (leafV 6 ⟨#[]⟩ 0 0 false) (1 + u)
      else if kindR c = 4 ∨ kindR c = 10 ∨ kindR c = 11 then
        match numS t 4096 with
        | none => .stop 51
        | some n => match longS (L.drop u) n with
          | .stop e => .stop e
          | .got s => if okV (leafV (kindR c) ⟨s.toArray⟩ 0 0 false) = true then .leaf (leafV (kindR c) ⟨s.toArray⟩ 0 0 false) (1 + u + (n + 2)) else .stop 51
      else if kindR c = 5 ∨ kindR c = 13 ∨ kindR c = 14 then
        match numS t 1000 with
        | none => .stop 51
        | some n => .list (kindR c) n (1 + u)
      else if kindR c = 12 then
        match numS t 1000 with
        | none => .stop 51
        | some n => .list 12 (2 * n) (1 + u)
      else match shortO (rp t) (kindR c) ⟨t.toArray⟩ with
        | none => .stop 51
        | some v => if okV v = true then .leaf v (1 + u) else .stop 51
/-- So many values, one behind the other. -/
def scanN (f : Nat → List UInt8 → Out (V × Nat × Nat)) : Nat → Nat → List UInt8 → Out (List V × Nat × Nat)
  | 0, many, _ => .got ([], 0, many)
  | n + 1, many, L => match f many L with
    | .stop e => .stop e
    | .got (v, u, m) => match scanN f n m (L.drop u) with
      | .stop e => .stop e
      | .got (l, u2, m2) => .got (v :: l, u + u2, m2)
/-- A value, with so many levels left, so many values so far: the value, its bytes, how many values then. -/
def scanV (rp : Rp) : Nat → Nat → List UInt8 → Out (V × Nat × Nat)
  | 0, many, L => match headS rp L with
    | .stop e => .stop e
    | .leaf v u => .got (v, u, many)
    | .list _ _ _ => .stop 51
  | lv + 1, many, L => match headS rp L with
    | .stop e => .stop e
    | .leaf v u => .got (v, u, many)
    | .list kd n u =>
      if 1000 < many + n ∨ (kd = 14 ∧ (n = 0 ∨ lv < 7)) then .stop 51
      else match scanN (scanV rp lv) n (many + n) (L.drop u) with
        | .stop e => .stop e
        | .got (l, u2, m2) => .got (.mk kd ⟨#[]⟩ 0 0 false l, u + u2, m2)
/-- The lines of numbers that reading comes to are known: here, -/
def needH (rp : Rp) (L : List UInt8) : Prop := ∀ (c : UInt8) (L' t : List UInt8) (u : Nat), L = c :: L' → kindR c = 7 → lineS L' = .got (t, u) → rp.K t
/-- .. in so many values, one behind the other, -/
def needN (need : Nat → List UInt8 → Prop) (f : Nat → List UInt8 → Out (V × Nat × Nat)) : Nat → Nat → List UInt8 → Prop
  | 0, _, _ => True
  | n + 1, m, L => need m L ∧ ∀ (v : V) (u m' : Nat), f m L = .got (v, u, m') → needN need f n m' (L.drop u)
/-- .. in a value. -/
def needV (rp : Rp) : Nat → Nat → List UInt8 → Prop
  | 0, _, L => needH rp L
  | lv + 1, m, L => needH rp L ∧ ∀ (kd n u : Nat), headS rp L = .list kd n u → needN (needV rp lv) (scanV rp lv) n (m + n) (L.drop u)
theorem needV_head {rp : Rp} {lv m : Nat} {L : List UInt8} (h : needV rp lv m L) : needH rp L := by
  cases lv with
  | zero => exact h
  | succ lv => exact h.1
/-- What is laid, and what real.Parse comes to, from a world on. -/
structure Env (rp : Rp) (w0 : World) (s : ByteArray) : Prop where
  nums : Nums w0
  real : ∀ W, Below w0.heap.size w0 W → ∀ (t : List UInt8), rp.K t → Calls Tryz.prog 90 #[.string ⟨t.toArray⟩] W (RealQ (rp t) W)
/-- A scan underway. -/
structure RS (rp : Rp) (w0 w : World) (g b o n cap : Nat) (s : ByteArray) (at_ many : Nat) : Prop where
  scan : Scan w g b o n cap s at_ many
  env : Env rp w0 s
  below : Below w0.heap.size w0 w
  base : w0.heap.size ≤ g
  le : at_ ≤ n
theorem RS.next {rp : Rp} {w0 w w' : World} {g b o n cap at_ many at2 many2 : Nat} {s : ByteArray} (h : RS rp w0 w g b o n cap s at_ many) (hf : Fr (fun k => k = g) w w') (hs : Scan w' g b o n cap s at2 many2) (hl : at2 ≤ n) : RS rp w0 w' g b o n cap s at2 many2 :=
  ⟨hs, h.env, h.below.trans (hf.below h.below.size (fun i hi e => by have := h.base; omega)), h.base, hl⟩
theorem fr_of_below {w w' : World} {g : Nat} (h : Below w.heap.size w w') : Fr (fun k => k = g) w w' := (Fr.of_below h).mono (fun i hi h => absurd hi (Nat.not_lt_of_le h))
theorem RS.grow {rp : Rp} {w0 w w' : World} {g b o n cap at_ many : Nat} {s : ByteArray} (h : RS rp w0 w g b o n cap s at_ many) (hb : Below w.heap.size w w') : RS rp w0 w' g b o n cap s at_ many := by
  have hblt : g < w.heap.size := h.scan.blk.lt
  refine h.next (fr_of_below hb) ⟨?_, ?_, ?_, ?_, ?_, h.scan.size, h.scan.ne, h.scan.room, h.scan.big⟩ h.le
  · rw [hb.cell (World.block_lt_of_cell? _ _ h.scan.c0)]; exact h.scan.c0
  · rw [hb.cell (World.block_lt_of_cell? _ _ h.scan.c1)]; exact h.scan.c1
  · rw [hb.cell (World.block_lt_of_cell? _ _ h.scan.c2)]; exact h.scan.c2
  · exact h.scan.blk.of_block (hb.block _ hblt)
  · exact bytes_below h.scan.bytes hb
theorem RS.nums {rp : Rp} {w0 w : World} {g b o n cap at_ many : Nat} {s : ByteArray} (h : RS rp w0 w g b o n cap s at_ many) : Nums w := h.env.nums.below h.below
/-- What a value comes to. -/
def ValQ (rp : Rp) (w0 : World) (g b o n cap : Nat) (s : ByteArray) (at_ : Nat) (out : Out (V × Nat × Nat)) (w : World) (e : Ending) (w' : World) : Prop :=
  match out with
  | .stop q => e = stopE q ∧ Fr (fun k => k = g) w w'
  | .got (v, u, m) => ∃ (a : Option Addr) (ca : Nat), e = .returned (.agg #[.int .i64 v.kind, .string v.text, .int .i64 v.int, .float .f64 v.real, .bool v.flag, .slice a v.list.length ca]) ∧
      RV (newer w.heap.size w') (cells6 v.kind v.text v.int v.real v.flag a v.list.length ca) v ∧ Fr (fun k => k = g) w w' ∧ RS rp w0 w' g b o n cap s (at_ + u) m
end Go.Proofs.YtagkgfniihiinaaGreatDoor
