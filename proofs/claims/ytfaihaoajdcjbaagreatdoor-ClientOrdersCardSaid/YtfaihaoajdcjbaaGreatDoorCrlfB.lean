/- strings.ContainsAny(s, "\r\n") at every text: the two roads. -/
import Derived.Test.YtfaihaoajdcjbaaGreatDoorCrlf
import Derived.Lib.OthersKept
set_option linter.all false
namespace Go.Proofs.YtfaihaoajdcjbaaGreatDoor
open Go.RowKit
theorem zero60 (w:World):(zeroValue 237).run Tryz.prog w=.ok (.agg (Array.replicate 256 (.bool false))) w:=by kernel_rfl
theorem info60:(Tryz.prog.info? 237).map (·.size)=some 256:=by kernel_rfl
theorem crlf_ascii:∀(j:Nat) b,crlf.data.toList[j]?=some b->b.toNat<128:=fun j b h=>by
 have:b∈[(13:UInt8),10]:=List.mem_of_getElem? h;simp at this;rcases this with rfl | rfl<;>decide
set_option maxRecDepth 1000000 in
set_option maxHeartbeats 3200000 in
theorem iany_short (s:ByteArray) (w:World) (h8:s.size<=8):Calls Tryz.prog 166 #[.string s,.string crlf] w fun e w' => e=.returned (.int .i64 (Lib.indexAny s.data.toList [13,10]))/\Below w.heap.size w w' := by
 have h8z:decide ((8:Int)<(s.size:Int))=false:=decide_eq_false (by omega)
 go_enter Tryz.func166,Tryz.ntmps166
 go_wp2_with (go_at_call 176;refine (Tryz.strings_shouldUseASCIISet _ _).mono ?_;rintro e w' ⟨rfl,hw⟩;rw [hw,h8z])
 have hb0:Below w.heap.size w (w.iter s 0):=(Below.refl _ _).alloc (Nat.le_refl _) _;have hh0:=Hd (World.iter_heap w s 0)
 go_loopg [9,10] s.size (fun g _ _ wx=>∃i:Nat,i<=s.size/\s.size<=i+g/\Lib.NoAny s.data.toList [13,10] i/\Below w.heap.size w wx/\wx.heap[w.heap.size]?=some (.stringIter s i))
 case atStart=>exact ⟨0,by omega,by omega,Lib.NoAny.zero _ _,hb0,hh0.out⟩
 case round=>
   obtain ⟨i,hi,hig,hno,hb,hh⟩:=hrel;replace hno:=Hd hno;clear hb0 hh0;by_cases hlt:i<s.size
   · obtain ⟨x,hx⟩:∃x:UInt8,s[i]'hlt=x:=⟨_,rfl⟩
     have hxl:s.data.toList[i]?=some x:=by rw [<-hx];exact Lib.data_getElem? s i hlt
     by_cases hx128:x.toNat<128
     · have hnx:=fun ty=>Lib.run_next_ascii_at (P:=Tryz.prog) wr w.heap.size s i ty hh hlt (by rw [hx];exact hx128)
       rw [hx] at hnx;have hh1:=Hd (Lib.iterAt_heap wr w.heap.size s i (i+1) hh);have hb1:=Lib.below_iterAt hb (k:=w.heap.size) (Nat.le_refl _) s (i+1);have hcon:=Lib.contains_iff_indexByte [13,10] x;have hback:((x.toNat:Int)).toNat.toUInt8=x:=by simp
       replace hh:=Hd hh;replace hxl:=Hd hxl;replace hx:=Hd hx;generalize hw1:wr.iterAt w.heap.size s (i+1)=w1 at hnx hh1 hb1;replace hw1:=Hd hw1;cases hin:[13,10].contains x
       · rw [hin] at hcon
         have hlt0:¬((0:Int)<=Lib.indexByte [13,10] x):=of_decide_eq_false hcon.symm;clear hcon;replace hin:=Hd hin;go_wp2_with (go_at_call 175;refine (Tryz.strings_IndexRune_ascii _ _ _ (by omega) (by omega)).mono ?_;rintro e w' ⟨rfl,hw⟩;rw [hw,hback])
         go_roundg (gk - 1)
         case measure=>omega
         case rel=>exact ⟨i+1,by omega,by omega,hno.out.succ hxl.out hin.out,hb1,hh1.out⟩
       · rw [hin] at hcon
         have hge:(0:Int)<=Lib.indexByte [13,10] x:=of_decide_eq_true hcon.symm;clear hcon;replace hin:=Hd hin;go_wp2_with (go_at_call 175;refine (Tryz.strings_IndexRune_ascii _ _ _ (by omega) (by omega)).mono ?_;rintro e w' ⟨rfl,hw⟩;rw [hw,hback])
         go_ret;exact ⟨by rw [Lib.indexAny_hit hno.out hxl.out hin.out];rfl,hb1⟩
     · have hx1:128<=(s[i]'hlt).toNat:=by rw [hx];omega
       have hnx:=fun ty=>Lib.run_next_any_at (P:=Tryz.prog) wr w.heap.size s i ty hh hlt;obtain ⟨q1,q2⟩:=decode_high s i hlt hx1;have hns:=noAny_skip hno.out hlt hx1;have hsk:=(E1 s i hlt hx1).1;generalize Utf8.decode s i=d at *;obtain ⟨r,n⟩:=d;simp only at hnx q1 q2 hns hsk;have hh1:=Lib.iterAt_heap wr w.heap.size s i (i+n) hh;have hb1:=Lib.below_iterAt hb (k:=w.heap.size) (Nat.le_refl _) s (i+n);generalize hw1:wr.iterAt w.heap.size s (i+n)=w1 at hnx hh1 hb1;have hlt1:w.heap.size<w1.heap.size:=(Array.getElem?_eq_some_iff.1 hh1).1;replace hw1:=Hd hw1;replace hh:=Hd hh;replace hh1:=Hd hh1;replace hxl:=Hd hxl;replace hx:=Hd hx;replace hns:=Hd hns;go_wp2_with fail
       refine (irune_any r (by omega) _).mono ?_;rintro e w2 ⟨rfl,hb2⟩;have hh2:w2.heap[w.heap.size]?=some (.stringIter s (i+n)):=by rw [hb2.block _ hlt1];exact hh1.out
       have hb3:=hb1.trans (hb2.mono (Nat.le_of_lt hlt1));replace hh2:=Hd hh2;go_wp2
       go_roundg (gk - n)
       case measure=>omega
       case rel=>exact ⟨i+n,by omega,by omega,hns.out,hb3,hh2.out⟩
   · obtain rfl:i=s.size:=by omega
     have hnx:=fun ty=>Lib.run_next_end_at (P:=Tryz.prog) wr w.heap.size s s.size ty hh (by omega);replace hh:=Hd hh;go_wp2;go_ret;exact ⟨by rw [Lib.indexAny_none (by rw [<-Lib.size_eq];exact hno.out)];rfl,hb⟩
set_option maxRecDepth 1000000 in
set_option maxHeartbeats 8000000 in
theorem iany_long (s:ByteArray) (w:World) (h8:8<s.size) (hmx:s.size<=9223372036854775807):Calls Tryz.prog 166 #[.string s,.string crlf] w fun e w' => e=.returned (.int .i64 (Lib.indexAny s.data.toList [13,10]))/\Below w.heap.size w w' := by
 have hM:=Tryz.strings_makeASCIISet zero60 crlf w (by decide) crlf_ascii;have h8z:decide ((8:Int)<(s.size:Int))=true:=decide_eq_true (by omega);have hlst:crlf.data.toList=[13,10]:=rfl;rw [hlst] at hM;have hsc:(storeCells ⟨w.heap.size+1,0,none⟩ (Lib.setCells [13,10]).toList 0).run Tryz.prog ((w.alloc (.cells (Lib.setCells [13,10]) 237)).alloc (.cells (Array.replicate 256 (.bool false)) 237))=.ok () ((w.alloc (.cells (Lib.setCells [13,10]) 237)).alloc (.cells (Lib.setCells [13,10]) 237)):=by
   have:=run_storeCells_new (P:=Tryz.prog) (w.alloc (.cells (Lib.setCells [13,10]) 237)) 237 (Array.replicate 256 (.bool false)) (Lib.setCells [13,10]) (by rw [Lib.setCells_size];exact info60) (by rw [Lib.setCells_size,Array.size_replicate]) (Lib.setCells_one _);simpa using this
 have hsz:=Lib.setCells_size [13,10];have hcellAt:∀x:UInt8,((w.alloc (.cells (Lib.setCells [13,10]) 237)).alloc (.cells (Lib.setCells [13,10]) 237)).cell? ⟨w.heap.size+1,x.toNat,none⟩=some (.bool ([13,10].contains x)):=fun x=>by
   rw [World.cell?_alloc_at _ _ _ _ (by simp),Lib.setCells_at]
 have hbel:Below w.heap.size w ((w.alloc (.cells (Lib.setCells [13,10]) 237)).alloc (.cells (Lib.setCells [13,10]) 237)):=((Below.refl _ _).alloc (Nat.le_refl _) _).alloc (by simp) _;replace hcellAt:=Hd hcellAt;replace hbel:=Hd hbel;have hz:=zero60
 go_enter Tryz.func166,Tryz.ntmps166
 go_wp2_with (first
   | (go_at_call 176;refine (Tryz.strings_shouldUseASCIISet _ _).mono ?_;rintro e w' ⟨rfl,hw⟩;rw [hw,h8z])
   | (go_at_call 177;refine hM.mono ?_;rintro e w' ⟨rfl,hw⟩;rw [hw]))
 clear hM hsc hz hsz hlst;generalize ((w.alloc (.cells (Lib.setCells [13,10]) 237)).alloc (.cells (Lib.setCells [13,10]) 237))=W2 at *
 go_loopg [8] s.size (fun g s8 wx=>∃i:Nat,i+g=s.size/\s8=.int .i64 i/\wx=W2/\Lib.NoAny s.data.toList [13,10] i)
 case atStart=>exact ⟨0,by omega,rfl,rfl,Lib.NoAny.zero _ _⟩
 case round=>
   obtain ⟨i,hig,rfl,rfl,hno⟩:=hrel;replace hno:=Hd hno;cases gk with
   | zero=>
     obtain rfl:i=s.size:=by omega
     have hiz:¬((s.size:Int)<(s.size:Int)):=by omega
     go_wp2;go_ret;exact ⟨by rw [Lib.indexAny_none (by rw [<-Lib.size_eq];exact hno.out)];rfl,hbel.out⟩
   | succ g=>
     have hi:i<s.size:=by omega
     have hiz:(i:Int)<(s.size:Int):=by omega
     obtain ⟨x,hx⟩:∃x:UInt8,s[i]'hi=x:=⟨_,rfl⟩;have hxl:s.data.toList[i]?=some x:=by rw [<-hx];exact Lib.data_getElem? s i hi
     replace hxl:=Hd hxl;have hcx:=hcellAt.out x;cases hin:[13,10].contains x<;>rw [hin] at hcx
     · replace hin:=Hd hin
       go_wp2_with (go_at_call 178;refine (Tryz.asciiSet_contains _ x _ _ hcx).mono ?_;rintro e w' ⟨rfl,hw⟩;rw [hw])
       go_roundg g
       case measure=>omega
       case rel=>exact ⟨i+1,by omega,by first | rfl | simp,rfl,hno.out.succ hxl.out hin.out⟩
     · replace hin:=Hd hin
       go_wp2_with (go_at_call 178;refine (Tryz.asciiSet_contains _ x _ _ hcx).mono ?_;rintro e w' ⟨rfl,hw⟩;rw [hw])
       go_ret;exact ⟨by rw [Lib.indexAny_hit hno.out hxl.out hin.out];rfl,hbel.out⟩
def crlfB (s:ByteArray):Bool:=Lib.containsAny s.data.toList [13,10]
theorem cany_any (s:ByteArray) (w:World) (hmx:s.size<=9223372036854775807):Calls Tryz.prog 153 #[.string s,.string crlf] w fun e w' => e=.returned (.bool (crlfB s))/\Below w.heap.size w w' := by
 have h:Calls Tryz.prog 166 #[.string s,.string crlf] w fun e w' => e=.returned (.int .i64 (Lib.indexAny s.data.toList [13,10]))/\Below w.heap.size w w' := by
   by_cases h8:s.size<=8
   · exact iany_short s w h8
   · exact iany_long s w (by omega) hmx
 unfold crlfB Lib.containsAny;generalize Lib.indexAny s.data.toList [13,10]=q at *;replace h:=Hd h
 go_enter Tryz.func153,Tryz.ntmps153
 go_wp2_with fail
 refine h.out.mono ?_;rintro e w1 ⟨rfl,hb⟩;go_wp2;go_ret;exact ⟨rfl,hb⟩
end Go.Proofs.YtfaihaoajdcjbaaGreatDoor
