/- What Go's own parsing and printing read; whole.Text. -/
import Derived.Test.YtfaihaoajdcjbaaGreatDoorBase
import Derived.Test.YtfaihaoajdcjbaaGreatDoorShelf
import Derived.Test.YtfaihaoajdcjbaaGreatDoorProg
import Derived.Lib.SmallJoins
import Derived.Lib.LaidTab
import Derived.Lib.AppendIntMem
set_option linter.all false
namespace Go.Proofs.YtfaihaoajdcjbaaGreatDoor
open Go.RowKit Go.Joins
structure Nums (w:World):Prop where
 tab : Lib.TabIs Tryz.prog w "internal/strconv.uint64pow10" .u64 Lib.pow10Tab
 syn : ∃ tp p, w.var? Tryz.prog "strconv.ErrSyntax" = some #[.iface tp p]
 rng : ∃ tp p, w.var? Tryz.prog "strconv.ErrRange" = some #[.iface tp p]
theorem glob_tab : Tryz.prog.globalNamed "internal/strconv.uint64pow10" = some 1 := by kernel_rfl
theorem glob_syn : Tryz.prog.globalNamed "strconv.ErrSyntax" = some 8 := by kernel_rfl
theorem glob_rng : Tryz.prog.globalNamed "strconv.ErrRange" = some 9 := by kernel_rfl
theorem Nums.below {w w' : World} (h:Nums w) (hb:Below w.heap.size w w'):Nums w' :=
 ⟨tab_stays glob_tab h.tab hb (Nat.le_refl _),let ⟨tp,p,hv⟩:=h.syn;⟨tp,p,var_stays glob_syn hv hb (Nat.le_refl _)⟩,let ⟨tp,p,hv⟩:=h.rng;⟨tp,p,var_stays glob_rng hv hb (Nat.le_refl _)⟩⟩
theorem Dl (n:Int) (h0:-9223372036854775808<=n) (h1:n<=9223372036854775807) (w:World) (hN:Nums w) :
   Calls Tryz.prog 54 #[.int .i64 n] w fun e w' => e=.returned (.string ⟨(Lib.itoa n).toArray⟩)/\Below w.heap.size w w' := by
 have ht:=Hd (hN.tab)
 go_enter Tryz.func54,Tryz.ntmps54
 go_wp2_with fail
 refine (Tryz.strconv_FormatInt_10 n h0 h1 _ ht.out).mono ?_;rintro e w' ⟨rfl,k,os,hw⟩;have hb:Below w.heap.size w w' := by rw [hw];exact Lib.below_grow w.heap.size w (Nat.le_refl _) k os
 clear hw;go_wp2;go_ret;exact ⟨rfl,hb⟩
end Go.Proofs.YtfaihaoajdcjbaaGreatDoor
