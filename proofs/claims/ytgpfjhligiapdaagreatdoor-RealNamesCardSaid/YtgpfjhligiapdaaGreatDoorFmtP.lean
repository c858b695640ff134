/- The texts of floats, as bytes: sign, digits, exponent (no program in sight). -/
import Derived.Test.YtgpfjhligiapdaaGreatDoorShort
import Derived.Lib.ItoaNum
namespace Go.Proofs.YtgpfjhligiapdaaGreatDoor

/-- A byte for a digit. -/
def dg8 (n : Nat) : UInt8 := UInt8.ofNat (48 + n)
/-- An exponent: its sign and at least two digits. -/
def expL (x : Int) : List UInt8 :=
  (if x < 0 then 45 else 43) :: (if x.natAbs < 10 then [48, dg8 x.natAbs] else if x.natAbs < 100 then [dg8 (x.natAbs / 10), dg8 (x.natAbs % 10)] else [dg8 (x.natAbs / 100), dg8 (x.natAbs / 10 % 10), dg8 (x.natAbs % 10)])
def signL (neg : Bool) : List UInt8 := if neg then [45] else []
/-- Digits D, the point behind dp of them, as 'd.ddde+xx'. -/
def effE (neg : Bool) (D : List UInt8) (dp : Int) : List UInt8 :=
  signL neg ++ [D.headD 48] ++ (if 1 < D.length then 46 :: D.tail else []) ++ [101] ++ expL (if D = [] then 0 else dp - 1)
/-- The same, written out. -/
def effF (neg : Bool) (D : List UInt8) (dp : Int) : List UInt8 :=
  signL neg ++ (if 0 < dp then D.take dp.toNat ++ List.replicate (dp.toNat - D.length) 48 else [48]) ++
    (if dp < D.length then 46 :: (List.replicate (-dp).toNat 48 ++ D.drop dp.toNat) else [])
/-- Of a row of digits those without the noughts behind. -/
def stripZ (l : List UInt8) : List UInt8 := (l.reverse.dropWhile (· == 48)).reverse
/-- A number's digits, and where the point stands. -/
def digL (r : Nat) : List UInt8 := if r = 0 then [] else stripZ (Lib.decDigits (shortN r).1)
def pointN (r : Nat) : Int := if r = 0 then 0 else (Lib.nDigits (shortN r).1 : Int) + (shortN r).2
/-- What real.Text answers at the bits b. -/
def realL (b : Nat) : List UInt8 :=
  if nanF b then [110, 97, 110]
  else if b % 9223372036854775808 = 9218868437227405312 then signL (decide (9223372036854775808 ≤ b)) ++ [105, 110, 102]
  else
    let D := digL (b % 9223372036854775808)
    let dp := pointN (b % 9223372036854775808)
    let x := if D = [] then 0 else dp - 1
    if x < -4 ∨ 21 ≤ x then effE (decide (9223372036854775808 ≤ b)) D dp else effF (decide (9223372036854775808 ≤ b)) D dp
example : realL 4609434218613702656 = [49, 46, 53] := by decide +kernel
example : realL 4599075939470750516 = [48, 46, 51, 48, 48, 48, 48, 48, 48, 48, 48, 48, 48, 48, 48, 48, 48, 48, 52] := by decide +kernel
example : realL 0 = [48] ∧ realL 9223372036854775808 = [45, 48] := by decide +kernel
end Go.Proofs.YtgpfjhligiapdaaGreatDoor
