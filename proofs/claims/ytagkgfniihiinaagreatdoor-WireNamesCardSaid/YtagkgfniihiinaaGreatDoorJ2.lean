/- Values: how the document's functions go through them, and how they are copied. -/
import Derived.Test.YtagkgfniihiinaaGreatDoorProg
import Derived.Test.YtagkgfniihiinaaGreatDoorV
import Derived.Deep.LoopGhost
import Derived.Deep.QuietTactic
import Derived.BigQuiet
import Derived.Deep.DeepCutAuto
import Derived.Deep.RegionHeld3
import Derived.Deep.CutBlock
namespace Go.Proofs.YtagkgfniihiinaaGreatDoor
open Go.RowKit
theorem eVal : Elem Tryz.prog 24 26 6 72 := elem_of Tryz.underlying24 (by decide) (by decide) (by kernel_rfl)
theorem Ad : (Tryz.prog.info? 26).map (·.size) = some 6 := by kernel_rfl
theorem one6 (k : Int) (t : ByteArray) (i : Int) (r : Nat) (f : Bool) (a : Option Addr) (n cap : Nat) : (#[Value.int .i64 k, .string t, .int .i64 i, .float .f64 r, .bool f, .slice a n cap] : Array Value).all (·.oneCell') = true := by
 simp [Value.oneCell']
def Fu (k : Int) : Bool := decide (k = 1 \/ k = 2 \/ k = 4 \/ k = 9 \/ k = 10 \/ k = 11)
def numK (k : Int) : Bool := decide (k = 3)
def realK (k : Int) : Bool := decide (k = 7)
def flagK (k : Int) : Bool := decide (k = 8)
def Dx (k : Int) : Bool := decide (k = 5 \/ k = 12 \/ k = 13 \/ k = 14)
def Ek (k : Int) : Bool := decide (1 <= k /\ k <= 14)
end Go.Proofs.YtagkgfniihiinaaGreatDoor
