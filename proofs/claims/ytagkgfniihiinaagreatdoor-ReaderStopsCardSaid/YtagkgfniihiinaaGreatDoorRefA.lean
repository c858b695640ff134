/- The document's numbers as text. -/
import Derived.Test.YtagkgfniihiinaaGreatDoorJ99
import Derived.Test.YtagkgfniihiinaaGreatDoorJ95
set_option linter.all false
namespace Go.Proofs.YtagkgfniihiinaaGreatDoor
open Go.RowKit
theorem sparse_anyB {s:ByteArray} {r S:Nat} {w:World} (hs:s.size<=1000) (hR:Rng w) (h:Calls Tryz.prog 164 #[.string s] w fun e w' => e=.returned (.tuple #[.float .f64 (S+r),.int .i64 (s.size:Int),Bn r])/\Below w.heap.size w w') :
  Calls Tryz.prog 85 #[.string s,.int .i64 64] w fun e w' => ∃er,e=.returned (.tuple #[.float .f64 (S+r),er])/\((r≠9218868437227405312/\er=.nilIface)\/(r=9218868437227405312/\∃N,er=.iface 156 (.pointer (some ⟨N,0,none⟩))))/\Below w.heap.size w w' := by
 by_cases hr:r=9218868437227405312
 ·have he:Bn r=.iface 155 (.int .i64 1):=if_pos hr
  rw [he] at h;obtain ⟨R,hRR⟩:∃R,R=S+r:=⟨_,rfl⟩;rw [<-hRR] at h ⊢;have h2:Calls Tryz.prog 129 #[.string s,.int .i64 64] w fun e w' => e=.returned (.tuple #[.float .f64 R,.int .i64 (s.size:Int),.iface 155 (.int .i64 1)])/\Below w.heap.size w w' := by
   replace h:=Hd h;clear hr hRR he
   go_enter Tryz.func129,Tryz.ntmps129
   go_wp2_with fail
   refine h.out.mono ?_;rintro e w' ⟨rfl,d⟩;go_wp2;exact bodyPost_ret (v:=.tuple #[.float .f64 R,.int .i64 (s.size:Int),.iface 155 (.int .i64 1)]) (by simp [results,Tryz.results129,go_sem]) rfl ⟨rfl,d⟩
  have h3:Calls Tryz.prog 102 #[.string s,.int .i64 64] w fun e w' => e=.returned (.tuple #[.float .f64 R,.iface 155 (.int .i64 1)])/\Below w.heap.size w w' := by
   replace h2:=Hd h2;clear h hr hRR he;have hbs:((s.size:Int) != (s.size:Int))=false:=by simp
   go_enter Tryz.func102,Tryz.ntmps102
   go_wp2_with fail
   refine h2.out.mono ?_;rintro e w' ⟨rfl,d⟩;go_wp2
   go_ret2
   exact ⟨rfl,d⟩
  replace hR:=Hd hR;have f := Hd hr;replace h3:=Hd h3;clear h h2 hr hRR he
  go_enter Tryz.func85,Tryz.ntmps85
  go_wp2_with fail
  refine h3.out.mono ?_;rintro e w1 ⟨rfl,c⟩;obtain ⟨te,pe,hv⟩:=(hR.out.below c).rng;have ht:=Hd (Tryz.strconv_toError_range ⟨#[80,97,114,115,101,70,108,111,97,116]⟩ s 0 64 (.iface te pe) w1 (by omega) hv (.inr ⟨te,pe,rfl⟩));replace c:=Hd c;clear hv;go_wp2_with fail
  refine ht.out.mono ?_;rintro e w2 ⟨N,rfl,_,_,hb⟩;go_wp2
  go_ret2
  exact ⟨_,rfl,.inr ⟨f.out,N,rfl⟩,c.out.trans (hb.mono c.out.size)⟩
 ·have he:Bn r=.nilIface:=if_neg hr
  rw [he] at h;exact (sparse_okB h).mono fun e w' ⟨a,b⟩=>⟨_,a,.inl ⟨hr,rfl⟩,b⟩
