/- What Go's own parsing and printing read; whole.Text. -/
import Derived.Test.YtagkgfniihiinaaGreatDoorJ56
import Derived.Test.YtagkgfniihiinaaGreatDoorShelf
import Derived.Lib.SmallJoins
set_option linter.all false
namespace Go.Proofs.YtagkgfniihiinaaGreatDoor
open Go.RowKit Go.Joins
structure Nums (w:World):Prop where
 tab : Lib.TabIs Tryz.prog w "internal/strconv.uint64pow10" .u64 Lib.pow10Tab
 syn : ∃ tp p, w.var? Tryz.prog "strconv.ErrSyntax" = some #[.iface tp p]
 rng : ∃ tp p, w.var? Tryz.prog "strconv.ErrRange" = some #[.iface tp p]
theorem glob_tab : Tryz.prog.globalNamed "internal/strconv.uint64pow10" = some 5 := by kernel_rfl
theorem glob_syn : Tryz.prog.globalNamed "strconv.ErrSyntax" = some 3 := by kernel_rfl
theorem glob_rng : Tryz.prog.globalNamed "strconv.ErrRange" = some 4 := by kernel_rfl
theorem Nums.below {w w' : World} (h:Nums w) (hb:Below w.heap.size w w'):Nums w' :=
 ⟨tab_stays glob_tab h.tab hb (Nat.le_refl _),let ⟨tp,p,hv⟩:=h.syn;⟨tp,p,var_stays glob_syn hv hb (Nat.le_refl _)⟩,let ⟨tp,p,hv⟩:=h.rng;⟨tp,p,var_stays glob_rng hv hb (Nat.le_refl _)⟩⟩
theorem wtext_any (n:Int) (h0:-9223372036854775808<=n) (h1:n<=9223372036854775807) (w:World) (hN:Nums w) :
  Calls Tryz.prog 56 #[.int .i64 n] w fun e w' => e=.returned (.string ⟨(Lib.itoa n).toArray⟩)/\Below w.heap.size w w' := by
 have ht:=Hd (hN.tab)
 go_enter Tryz.func56,Tryz.ntmps56
 go_wp2_with fail
 refine (Tryz.strconv_FormatInt_10 n h0 h1 _ ht.out).mono ?_;rintro e w' ⟨rfl,k,os,hw⟩;have hb:Below w.heap.size w w' := by rw [hw];exact Lib.below_grow w.heap.size w (Nat.le_refl _) k os
 clear hw;go_wp2;go_ret;exact ⟨rfl,hb⟩
