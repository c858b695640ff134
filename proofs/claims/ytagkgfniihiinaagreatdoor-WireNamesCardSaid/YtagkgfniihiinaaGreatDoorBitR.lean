/- Bits of 64: or, and, shifts, as the walk meets them (no program in sight). -/
import Derived.WalkKit
import Derived.Test.YtagkgfniihiinaaGreatDoorUsc
namespace Go.Proofs.YtagkgfniihiinaaGreatDoor
open Go
theorem or_one (q : Nat) : q ||| 1 = q / 2 * 2 + 1 := by
 refine Nat.eq_of_testBit_eq fun i => ?_
 rw [Nat.testBit_or]
 cases i with
 | zero => simp
 | succ i => simp [Nat.testBit_succ]; congr 1; omega
theorem or_stick (q : Nat) (b : Bool) : q ||| b.toNat = Cq q b := by
 cases b
 · simp [Cq]
 · exact or_one q
theorem Bc (x : Nat) (h : x < 18446744073709551616) : (BitVec.ofInt 64 (x : Int)).toNat = x := by
 rw [BitVec.toNat_ofInt]; omega
theorem Cx {x y : Nat} (hx : x < 18446744073709551616) (hy : y < 18446744073709551616) : bits .or .u64 (x : Int) (y : Int) = ((x ||| y : Nat) : Int) := by
 have h : x ||| y < 2 ^ 64 := Nat.or_lt_two_pow (by omega) (by omega)
 show IntKind.u64.wrap (((BitVec.ofInt 64 (x : Int)) ||| (BitVec.ofInt 64 (y : Int))).toNat : Int) = _
 rw [BitVec.toNat_or, Bc x hx, Bc y hy]
 simp [IntKind.wrap, IntKind.bits, IntKind.signed]
 omega
theorem Dr {x y : Nat} (hx : x < 18446744073709551616) (hy : y < 18446744073709551616) : bits .and .u64 (x : Int) (y : Int) = ((x &&& y : Nat) : Int) := by
 have h : x &&& y < 2 ^ 64 := Nat.and_lt_two_pow _ (by omega)
 show IntKind.u64.wrap (((BitVec.ofInt 64 (x : Int)) &&& (BitVec.ofInt 64 (y : Int))).toNat : Int) = _
 rw [BitVec.toNat_and, Bc x hx, Bc y hy]
 simp [IntKind.wrap, IntKind.bits, IntKind.signed]
 omega
theorem B7 {x y : Nat} (hx : x < 9223372036854775808) (hy : y < 9223372036854775808) : bits .and .i64 (x : Int) (y : Int) = ((x &&& y : Nat) : Int) := by
 have h : x &&& y < 2 ^ 63 := Nat.and_lt_two_pow _ (by omega)
 show IntKind.i64.wrap (((BitVec.ofInt 64 (x : Int)) &&& (BitVec.ofInt 64 (y : Int))).toNat : Int) = _
 rw [BitVec.toNat_and, Bc x (by omega), Bc y (by omega)]
 simp [IntKind.wrap, IntKind.bits, IntKind.signed]
 omega
theorem and_63 (s : Nat) : s &&& 63 = s % 64 := Nat.and_two_pow_sub_one_eq_mod s 6
theorem and_1 (s : Nat) : s &&& 1 = s % 2 := Nat.and_two_pow_sub_one_eq_mod s 1
end Go.Proofs.YtagkgfniihiinaaGreatDoor
