/- The client: small methods; what is asked. -/
import Derived.Test.YtfaihaoajdcjbaaGreatDoorJ9
set_option linter.all false
namespace Go.Proofs.YtfaihaoajdcjbaaGreatDoor
open Go.RowKit
theorem Gb {ow:Nat->Nat} {w:World} {cb:Nat} {s:CS} (h:Cli ow w cb s):Calls Tryz.prog 13 #[P0 cb] w fun e w' => e=.returned (.int .i64 s.asked.length)/\w' = w:=by
 obtain ⟨p,rs,hC,hP,hq⟩:=h.out;obtain ⟨a,n,he,hn⟩:=hP.asked.shape;have c:=hC.c11;rw [he] at c;clear hC hP hq h
 go_enter Tryz.func13,Tryz.ntmps13
 go_wp2;go_ret;exact ⟨rfl,rfl⟩
theorem cnear_any {w:World} {cb:Nat} {p:CAt} {s:CS} (hC:Cells w cb p s):Calls Tryz.prog 17 #[P0 cb] w fun e w' => e=.returned (P0 p.nb)/\w' = w:=by
 have c:=hC.c0;clear hC
 go_enter Tryz.func17,Tryz.ntmps17
 go_wp2;go_ret;exact ⟨rfl,rfl⟩
theorem row_src {B:Nat} {w:World} {v:Value} {s:ByteArray} (h:Row B w v s) (h0:0<s.size):Src Tryz.prog 1 32 v s.size (Lib.strCells s) w:=by
 obtain ⟨ad,cap,hv,hl,hc⟩:=Reads.of_owns h.own;have hp:0<(Lib.strCells s).length:=by rw [Lib.strCells_length];exact h0
 obtain ⟨b,o,ha,_⟩:=hc 0 _ (List.getElem?_eq_getElem hp);rw [hv,ha];refine Src.ofSlice _ Tryz.underlying32 ⟨b,o,none⟩ s.size cap _ (by rw [Lib.strCells_length,Nat.mul_one]) (fun j u hj=>?_) (Lib.strCells_oneCell s);obtain ⟨b', o', ha', hc'⟩:=hc j u hj;rw [ha] at ha';cases ha'
 rw [Cp];exact hc'
theorem command_pos (l:List ByteArray):0<(Ak l).size:=by
 have e2:(⟨#[13,10]⟩:ByteArray).size=2:=rfl;rw [Ak,numB,ByteArray.size_append,ByteArray.size_append,e2];omega
theorem eAsk:Elem Tryz.prog 66 71 2 16:=C1 Tryz.underlying66 (by decide) (by decide) (by kernel_rfl)
end Go.Proofs.YtfaihaoajdcjbaaGreatDoor
