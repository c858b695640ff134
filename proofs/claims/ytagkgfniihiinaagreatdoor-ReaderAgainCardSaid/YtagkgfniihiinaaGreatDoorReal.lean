/- strconv.FormatFloat, the shortest digits; real.Text. -/
import Derived.Test.YtagkgfniihiinaaGreatDoorFtoa
import Derived.Deep.AppendLies
set_option linter.all false
namespace Go.Proofs.YtagkgfniihiinaaGreatDoor
open Go.RowKit
theorem Row.text {B:Nat} {w:World} {v:Value} {s:ByteArray} (h:Row B w v s) (hs:0<s.data.size):(convert 27 9 v).run Tryz.prog w=.ok (.string s) w:=by
 have hs' : 0<s.size:=hs;obtain ⟨g,ca,rfl,hg1,hg2⟩:=h.own.form (by omega);have hl:s.size=s.data.toList.length:=by rw [Array.length_toList];rfl
 have h7:=run_convert_bytes_back (P:=Tryz.prog) w 27 9 5 ⟨g,0,none⟩ ca s.data.toList Tryz.underlying27 Tryz.underlying5 Tryz.underlying9 (fun q hq=>by
   have h8:=h.own.cellAt q (by rw [hl];simpa using hq);rw [add_at,Nat.zero_add,h8,Lib.strCells,List.getElem?_map,List.getElem?_eq_getElem hq];rfl)
 rw [hl];refine h7.trans ?_;rfl
theorem effE_pos (neg:Bool) (D:List UInt8) (dp:Int):0<(effE neg D dp).length:=by unfold effE;simp;omega
theorem effF_pos (neg:Bool) (D:List UInt8) (dp:Int):0<(effF neg D dp).length:=by
 unfold effF;rw [List.length_append,List.length_append];split
 · rw [List.length_append,List.length_replicate,List.length_take];omega
 · simp;omega
set_option maxRecDepth 100000 in
set_option maxHeartbeats 1600000 in
theorem ifmtE_any {w:World} {n:Nat} (hn:n<18446744073709551616) (hr:n % 9223372036854775808<9218868437227405312) (hF:Flo w) :
   Calls Tryz.prog 94 #[.float .f64 n,.int .u8 101,.int .i64 (-1),.int .i64 64] w fun e w' => ∃t:ByteArray,e=.returned (.string t)/\t.data.toList=effE (decide (9223372036854775808<=n)) (digL (n % 9223372036854775808)) (Bh (n % 9223372036854775808))/\Below w.heap.size w w' := by
 obtain ⟨ht,hsz,hb,i,z,hi,hz,hi1,hi2,hz1⟩:=eByte1
 replace hF:=Hd hF
 go_enter Tryz.func94,Tryz.ntmps94
 go_wp2_with (at_make;refine wpList_make_own _ rfl _ _ 27 rfl w.heap.size 5 i z 1 ht hi hz hi1 .i64 .i64 24 24 rfl rfl rfl (by rw [hi2];decide) (by decide) (Nat.le_refl _) ?_)
 intro w1 hw1 hg1
 have hb1:Below w.heap.size w w1:=(Fr.of_grown hg1).below (Nat.le_refl _) (fun i hi e=>by cases e)
 have hR1:Row w.heap.size w1 (.slice (some ⟨w.heap.size,0,none⟩) 0 24) ⟨#[]⟩:=⟨hw1⟩
 have hF1:Flo w1:=⟨hF.out.pows.below hb1 hF.out.pows.lt,Go.Joins.tab_stays C8 hF.out.tens hb1 (Nat.le_refl _)⟩
 replace hb1:=Hd hb1
 replace hw1:=Hd hw1
 replace hg1:=Hd hg1
 replace hR1:=Hd hR1
 replace hF1:=Hd hF1
 go_wp2_with fail
 refine (ftoaE_any (B:=w.heap.size) hn hr hR1.out (by decide) hb1.out.size hF.out.pows.lt hF1.out).mono ?_
 rintro e w2 ⟨v2,t,rfl,ht2,hR2,hb2⟩
 rw [Gg] at hR2
 have hcv:=hR2.text (by rw [<-Array.length_toList,ht2];exact effE_pos _ _ _)
 have hb02:=hb1.out.trans hb2
 replace ht2:=Hd ht2
 replace hR2:=Hd hR2
 go_wp2_with fail
 go_ret
 exact ⟨t,rfl,ht2.out,hb02⟩
theorem sfmtE_any {w:World} {n:Nat} (hn:n<18446744073709551616) (hr:n % 9223372036854775808<9218868437227405312) (hF:Flo w) :
   Calls Tryz.prog 78 #[.float .f64 n,.int .u8 101,.int .i64 (-1),.int .i64 64] w fun e w' => ∃t:ByteArray,e=.returned (.string t)/\t.data.toList=effE (decide (9223372036854775808<=n)) (digL (n % 9223372036854775808)) (Bh (n % 9223372036854775808))/\Below w.heap.size w w' := by
 have h:=ifmtE_any hn hr hF
 replace h:=Hd h
 clear hF
 go_enter Tryz.func78,Tryz.ntmps78
 go_wp2_with fail
 refine h.out.mono ?_
 rintro e w2 ⟨t,rfl,ht,hb⟩
 replace ht:=Hd ht
 go_wp2_with fail
 go_ret
 exact ⟨t,rfl,ht.out,hb⟩
set_option maxRecDepth 100000 in
set_option maxHeartbeats 1600000 in
theorem ifmtF_any {w:World} {n:Nat} (hn:n<18446744073709551616) (hr:n % 9223372036854775808<9218868437227405312) (hF:Flo w) :
   Calls Tryz.prog 94 #[.float .f64 n,.int .u8 102,.int .i64 (-1),.int .i64 64] w fun e w' => ∃t:ByteArray,e=.returned (.string t)/\t.data.toList=effF (decide (9223372036854775808<=n)) (digL (n % 9223372036854775808)) (Bh (n % 9223372036854775808))/\Below w.heap.size w w' := by
 obtain ⟨ht,hsz,hb,i,z,hi,hz,hi1,hi2,hz1⟩:=eByte1
 replace hF:=Hd hF
 go_enter Tryz.func94,Tryz.ntmps94
 go_wp2_with (at_make;refine wpList_make_own _ rfl _ _ 27 rfl w.heap.size 5 i z 1 ht hi hz hi1 .i64 .i64 24 24 rfl rfl rfl (by rw [hi2];decide) (by decide) (Nat.le_refl _) ?_)
 intro w1 hw1 hg1
 have hb1:Below w.heap.size w w1:=(Fr.of_grown hg1).below (Nat.le_refl _) (fun i hi e=>by cases e)
 have hR1:Row w.heap.size w1 (.slice (some ⟨w.heap.size,0,none⟩) 0 24) ⟨#[]⟩:=⟨hw1⟩
 have hF1:Flo w1:=⟨hF.out.pows.below hb1 hF.out.pows.lt,Go.Joins.tab_stays C8 hF.out.tens hb1 (Nat.le_refl _)⟩
 replace hb1:=Hd hb1
 replace hw1:=Hd hw1
 replace hg1:=Hd hg1
 replace hR1:=Hd hR1
 replace hF1:=Hd hF1
 go_wp2_with fail
 refine (ftoaF_any (B:=w.heap.size) hn hr hR1.out (by decide) hb1.out.size hF.out.pows.lt hF1.out).mono ?_
 rintro e w2 ⟨v2,t,rfl,ht2,hR2,hb2⟩
 rw [Gg] at hR2
 have hcv:=hR2.text (by rw [<-Array.length_toList,ht2];exact effF_pos _ _ _)
 have hb02:=hb1.out.trans hb2
 replace ht2:=Hd ht2
 replace hR2:=Hd hR2
 go_wp2_with fail
 go_ret
 exact ⟨t,rfl,ht2.out,hb02⟩
theorem sfmtF_any {w:World} {n:Nat} (hn:n<18446744073709551616) (hr:n % 9223372036854775808<9218868437227405312) (hF:Flo w) :
   Calls Tryz.prog 78 #[.float .f64 n,.int .u8 102,.int .i64 (-1),.int .i64 64] w fun e w' => ∃t:ByteArray,e=.returned (.string t)/\t.data.toList=effF (decide (9223372036854775808<=n)) (digL (n % 9223372036854775808)) (Bh (n % 9223372036854775808))/\Below w.heap.size w w' := by
 have h:=ifmtF_any hn hr hF
 replace h:=Hd h
 clear hF
 go_enter Tryz.func78,Tryz.ntmps78
 go_wp2_with fail
 refine h.out.mono ?_
 rintro e w2 ⟨t,rfl,ht,hb⟩
 replace ht:=Hd ht
 go_wp2_with fail
 go_ret
 exact ⟨t,rfl,ht.out,hb⟩
end Go.Proofs.YtagkgfniihiinaaGreatDoor
