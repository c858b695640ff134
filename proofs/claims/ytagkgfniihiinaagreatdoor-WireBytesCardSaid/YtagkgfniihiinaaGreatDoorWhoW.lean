/- real.Parse at the digits of a whole number. -/
import Derived.Test.YtagkgfniihiinaaGreatDoorJ38
import Derived.Test.YtagkgfniihiinaaGreatDoorJ45
import Derived.Test.YtagkgfniihiinaaGreatDoorJ31
import Derived.Test.YtagkgfniihiinaaGreatDoorJ13
namespace Go.Proofs.YtagkgfniihiinaaGreatDoor
open Go.RowKit
theorem sparse_okB {s : ByteArray} {r : Nat} {w : World} (h : Calls Tryz.prog 164 #[.string s] w fun e w' => e = .returned (.tuple #[.float .f64 r,.int .i64 (s.size : Int),.nilIface]) /\ Below w.heap.size w w') :
   Calls Tryz.prog 85 #[.string s,.int .i64 64] w fun e w' => e = .returned (.tuple #[.float .f64 r,.nilIface]) /\ Below w.heap.size w w':=by
 have h2 : Calls Tryz.prog 129 #[.string s,.int .i64 64] w fun e w' => e = .returned (.tuple #[.float .f64 r,.int .i64 (s.size : Int),.nilIface]) /\ Below w.heap.size w w':=by
   replace h:=Hd h
   go_enter Tryz.func129,Tryz.ntmps129
   go_wp2_with fail
   refine h.out.mono ?_;rintro e w' ⟨rfl,hww⟩;go_wp2;exact bodyPost_ret (v:=.tuple #[.float .f64 r,.int .i64 (s.size : Int),.nilIface]) (by simp [results,Tryz.results129,go_sem]) rfl ⟨rfl,hww⟩
 have h3 : Calls Tryz.prog 102 #[.string s,.int .i64 64] w fun e w' => e = .returned (.tuple #[.float .f64 r,.nilIface]) /\ Below w.heap.size w w':=by
   replace h2:=Hd h2;clear h;have hbs : ((s.size : Int) != (s.size : Int)) = false:=by simp
   go_enter Tryz.func102,Tryz.ntmps102
   go_wp2_with fail
   refine h2.out.mono ?_;rintro e w' ⟨rfl,hww⟩;go_wp2
   go_ret2
   exact ⟨rfl,hww⟩
 replace h3:=Hd h3
 clear h h2
 go_enter Tryz.func85,Tryz.ntmps85
 go_wp2_with fail
 refine h3.out.mono ?_
 rintro e w' ⟨rfl,hww⟩
 go_wp2
 go_ret2
 exact ⟨rfl,hww⟩
end Go.Proofs.YtagkgfniihiinaaGreatDoor
