/- nearhandref04.Bytes of a text, and of a list of texts, in the newer protocol. -/
import Derived.Test.YtagkgfniihiinaaGreatDoorJ88
import Derived.Test.YtagkgfniihiinaaGreatDoorTx01
import Derived.Test.YtagkgfniihiinaaGreatDoorJ50
namespace Go.Proofs.YtagkgfniihiinaaGreatDoor
open Go.RowKit Go.Joins
set_option maxRecDepth 100000 in
theorem count4_any (n:Nat) (hn:n<=1000000000000) (w:World):Calls Tryz.prog 43 #[.int .i64 (n:Int)] w fun e w' => e=.returned (.string (Be n++⟨#[13,10]⟩))/\Below w.heap.size w w' := by
 have hz:(Be n).size<=21:=Eo n (by omega) (by omega);have hT:=F5 n (by omega) (by omega);generalize Be n=T at *;replace hT:=Hd hT
 go_enter Tryz.func43,Tryz.ntmps43
 go_wp2_with fail
 refine (hT.out _).mono ?_;rintro e w1 ⟨rfl,hb1⟩;go_wp2;go_ret;exact ⟨rfl,hb1⟩
end Go.Proofs.YtagkgfniihiinaaGreatDoor
