/- internal/strconv.ftoa64: the shortest digits, written with an exponent or without. -/
import Derived.Test.YteoalcmhdoopnaaGreatDoorAppB
import Derived.Test.YteoalcmhdoopnaaGreatDoorShort
import Derived.Lib.ItoaNum
import Derived.Deep.DeepCutAuto
import Derived.Deep.LoopGhost
import Derived.Deep.CutBlock
import Derived.Test.YteoalcmhdoopnaaGreatDoorShoW
import Derived.Lib.ItoaMem
import Derived.Lib.RowBridge
import Derived.Lib.OwnBridge
import Derived.Test.YteoalcmhdoopnaaGreatDoorDigP
import Derived.Lib.ItoaLen
namespace Go.Proofs.YteoalcmhdoopnaaGreatDoor
open Go.RowKit
theorem tens_named : Tryz.prog.globalNamed "internal/strconv.uint64pow10" = some 3 := by kernel_rfl
structure Flo (w:World):Prop where
 pows:Pows w
 tens : Lib.TabIs Tryz.prog w "internal/strconv.uint64pow10" .u64 Lib.pow10Tab
end Go.Proofs.YteoalcmhdoopnaaGreatDoor
