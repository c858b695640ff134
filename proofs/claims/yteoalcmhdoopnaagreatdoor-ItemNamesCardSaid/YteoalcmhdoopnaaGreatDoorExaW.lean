/- internal/strconv.atof64exact: its walk. -/
import Derived.Test.YteoalcmhdoopnaaGreatDoorPreW
import Derived.ProofKit
import Derived.OpenShut
import Derived.LaidMore
import Derived.LaidSub
import Derived.LaidLaws
import Derived.Lib.LaidTab
import Derived.Stop.LaidErr
import Derived.Lay
import Derived.Test.YteoalcmhdoopnaaGreatDoorRIs
namespace Go.Proofs.YteoalcmhdoopnaaGreatDoor
open Go.RowKit
def f10L:List Nat:=[4607182418800017408,4621819117588971520,4636737291354636288,4652007308841189376,4666723172467343360,4681608360884174848,4696837146684686336,4711630319722168320,4726483295884279808,4741671816366391296,4756540486875873280,4771362005757984768,4786511204640096256,4801453603149578240,4816244402031689728,4831355200913801216,4846369599423283200,4861130398305394688,4876203697187506176,4891288408196988160,4906019910204099648,4921056587992461136,4936209963552724370]
structure Par (w:World):Prop where
 opt:w.cell? ⟨4,0,none⟩=some (.bool true)
 bits:w.cell? ⟨7,0,none⟩=some (.int .u64 52)
 tens:∃(b:Addr) (c:Nat),w.cell? ⟨10,0,none⟩=some (.slice (some b) 23 c)/\∀i z,f10L[i]?=some z->w.cell? (b.add i)=some (.float .f64 z)
end Go.Proofs.YteoalcmhdoopnaaGreatDoor
