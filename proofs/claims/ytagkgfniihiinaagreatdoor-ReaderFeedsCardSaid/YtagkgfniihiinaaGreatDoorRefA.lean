/- The document's numbers as text: the number of digits, noughts, the layout. -/
import Derived.Test.YtagkgfniihiinaaGreatDoorJ22
import Derived.Test.YtagkgfniihiinaaGreatDoorJ60
import Derived.Test.YtagkgfniihiinaaGreatDoorJ59
import Derived.Test.YtagkgfniihiinaaGreatDoorJ43
import Derived.Test.YtagkgfniihiinaaGreatDoorJ45
import Derived.Deep.AppendLies
import Derived.Test.YtagkgfniihiinaaGreatDoorJ84
import Derived.Test.YtagkgfniihiinaaGreatDoorJ86
import Derived.Lib.ItoaNum
import Derived.Lib.ItoaLen
import Derived.Lib.SmallJoins
set_option linter.all false
namespace Go.Proofs.YtagkgfniihiinaaGreatDoor
open Go.RowKit
theorem sparse_anyB {s:ByteArray} {r S:Nat} {w:World} (hs:s.size<=1000) (hR:Rng w) (h:Calls Tryz.prog 164 #[.string s] w fun e w' => e=.returned (.tuple #[.float .f64 (S+r),.int .i64 (s.size:Int),Bc r])/\Below w.heap.size w w') :
   Calls Tryz.prog 85 #[.string s,.int .i64 64] w fun e w' => ∃er,e=.returned (.tuple #[.float .f64 (S+r),er])/\((r≠9218868437227405312/\er=.nilIface)\/(r=9218868437227405312/\∃N,er=.iface 156 (.pointer (some ⟨N,0,none⟩))))/\Below w.heap.size w w' := by
 by_cases hr:r=9218868437227405312
 · have he:Bc r=.iface 155 (.int .i64 1):=if_pos hr
   rw [he] at h;obtain ⟨R,hRR⟩:∃R,R=S+r:=⟨_,rfl⟩;rw [<-hRR] at h ⊢;have h2:Calls Tryz.prog 129 #[.string s,.int .i64 64] w fun e w' => e=.returned (.tuple #[.float .f64 R,.int .i64 (s.size:Int),.iface 155 (.int .i64 1)])/\Below w.heap.size w w' := by
     replace h:=Hd h;clear hr hRR he
     go_enter Tryz.func129,Tryz.ntmps129
     go_wp2_with fail
     refine h.out.mono ?_;rintro e w' ⟨rfl,hww⟩;go_wp2;exact bodyPost_ret (v:=.tuple #[.float .f64 R,.int .i64 (s.size:Int),.iface 155 (.int .i64 1)]) (by simp [results,Tryz.results129,go_sem]) rfl ⟨rfl,hww⟩
   have h3:Calls Tryz.prog 102 #[.string s,.int .i64 64] w fun e w' => e=.returned (.tuple #[.float .f64 R,.iface 155 (.int .i64 1)])/\Below w.heap.size w w' := by
     replace h2:=Hd h2;clear h hr hRR he;have hbs:((s.size:Int) != (s.size:Int))=false:=by simp
     go_enter Tryz.func102,Tryz.ntmps102
     go_wp2_with fail
     refine h2.out.mono ?_;rintro e w' ⟨rfl,hww⟩;go_wp2
     go_ret2
     exact ⟨rfl,hww⟩
   replace hR:=Hd hR;have hr' := Hd hr;replace h3:=Hd h3;clear h h2 hr hRR he
   go_enter Tryz.func85,Tryz.ntmps85
   go_wp2_with fail
   refine h3.out.mono ?_;rintro e w1 ⟨rfl,hb1⟩;obtain ⟨te,pe,hv⟩:=(hR.out.below hb1).rng;have ht:=Tryz.strconv_toError_range ⟨#[80,97,114,115,101,70,108,111,97,116]⟩ s 0 64 (.iface te pe) w1 (by omega) hv (.inr ⟨te,pe,rfl⟩);replace hb1:=Hd hb1;replace ht:=Hd ht;clear hv;go_wp2_with fail
   refine ht.out.mono ?_;rintro e w2 ⟨N,rfl,_,_,hb⟩;go_wp2
   go_ret2
   exact ⟨_,rfl,.inr ⟨hr'.out,N,rfl⟩,hb1.out.trans (hb.mono hb1.out.size)⟩
 · have he:Bc r=.nilIface:=if_neg hr
   rw [he] at h;exact (sparse_okB h).mono fun e w' ⟨a,b⟩=>⟨_,a,.inl ⟨hr,rfl⟩,b⟩
end Go.Proofs.YtagkgfniihiinaaGreatDoor
