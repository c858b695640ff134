/- strconv.FormatFloat, the shortest digits; real.Text. -/
import Derived.Test.YteoalcmhdoopnaaGreatDoorFtoa
import Derived.Deep.AppendLies
namespace Go.Proofs.YteoalcmhdoopnaaGreatDoor
open Go.RowKit
theorem Row.text {B:Nat} {w:World} {v:Value} {s:ByteArray} (h:Row B w v s) (hs:0<s.data.size):(convert 50 9 v).run Tryz.prog w=.ok (.string s) w:=by
 have hs' : 0<s.size:=hs;obtain ⟨g,ca,rfl,hg1,hg2⟩:=h.own.form (by omega);have hl:s.size=s.data.toList.length:=by rw [Array.length_toList];rfl
 have h7:=run_convert_bytes_back (P:=Tryz.prog) w 50 9 5 ⟨g,0,none⟩ ca s.data.toList Tryz.underlying50 Tryz.underlying5 Tryz.underlying9 (fun q hq=>by
   have h8:=h.own.cellAt q (by rw [hl];simpa using hq);rw [add_at,Nat.zero_add,h8,Lib.strCells,List.getElem?_map,List.getElem?_eq_getElem hq];rfl)
 rw [hl];refine h7.trans ?_;rfl
end Go.Proofs.YteoalcmhdoopnaaGreatDoor
