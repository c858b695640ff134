/- strings.ContainsAny(s, "\r\n") at every text: the two roads. -/
import Derived.Test.YtagkgfniihiinaaGreatDoorCrlf
set_option linter.all false
set_option maxHeartbeats 8000000
set_option maxRecDepth 1000000
namespace Go.Proofs.YtagkgfniihiinaaGreatDoor
open Go.RowKit
theorem zero60 (w:World):(zeroValue 281).run Tryz.prog w=.ok (.agg (Array.replicate 256 (.bool false))) w:=by kernel_rfl
theorem info60:(Tryz.prog.info? 281).map (·.size)=some 256:=by kernel_rfl
theorem crlf_ascii:∀(j:Nat) b,crlf.data.toList[j]?=some b->b.toNat<128:=fun j b h=>by
 have:b∈[(13:UInt8),10]:=List.mem_of_getElem? h;simp at this;rcases this with rfl | rfl<;>decide
theorem iany_short (s:ByteArray) (w:World) (h8:s.size<=8):Calls Tryz.prog 165 #[.string s,.string crlf] w fun e w' => e=.returned (.int .i64 (Lib.indexAny s.data.toList [13,10]))/\Below w.heap.size w w' := by
 have y:decide ((8:Int)<(s.size:Int))=false:=decide_eq_false (by omega)
 go_enter Tryz.func165,Tryz.ntmps165
 go_wp2_with (go_at_call 215;refine (Tryz.strings_shouldUseASCIISet _ _).mono ?_;rintro e w' ⟨rfl,hw⟩;rw [hw,y])
 have t:Below w.heap.size w (w.iter s 0):=(Below.refl _ _).alloc (Nat.le_refl _) _;have u:=Hd (World.iter_heap w s 0)
 go_loopg [9,10] s.size (fun g _ _ wx=>∃i:Nat,i<=s.size/\s.size<=i+g/\Lib.NoAny s.data.toList [13,10] i/\Below w.heap.size w wx/\wx.heap[w.heap.size]?=some (.stringIter s i))
 case atStart=>exact ⟨0,by omega,by omega,Lib.NoAny.zero _ _,t,u.out⟩
 case round=>
  obtain ⟨i,hi,hig,j,hb,hh⟩:=hrel;replace j:=Hd j;clear t u;by_cases hlt:i<s.size
  ·obtain ⟨x,hx⟩:∃x:UInt8,s[i]'hlt=x:=⟨_,rfl⟩
   have c:s.data.toList[i]?=some x:=by rw [<-hx];exact Lib.data_getElem? s i hlt
   by_cases hx128:x.toNat<128
   ·have f:=fun ty=>Lib.run_next_ascii_at (P:=Tryz.prog) wr w.heap.size s i ty hh hlt (by rw [hx];exact hx128)
    rw [hx] at f;have b:=Hd (Lib.iterAt_heap wr w.heap.size s i (i+1) hh);have h:=Lib.below_iterAt hb (k:=w.heap.size) (Nat.le_refl _) s (i+1);have a:=Lib.contains_iff_indexByte [13,10] x;have l:((x.toNat:Int)).toNat.toUInt8=x:=by simp
    replace hh:=Hd hh;replace c:=Hd c;replace hx:=Hd hx;generalize hw1:wr.iterAt w.heap.size s (i+1)=w1 at f b h;replace hw1:=Hd hw1;cases hin:[13,10].contains x
    ·rw [hin] at a
     have hlt0:¬((0:Int)<=Lib.indexByte [13,10] x):=of_decide_eq_false a.symm;clear a;replace hin:=Hd hin;go_wp2_with (go_at_call 214;refine (Tryz.strings_IndexRune_ascii _ _ _ (by omega) (by omega)).mono ?_;rintro e w' ⟨rfl,hw⟩;rw [hw,l])
     go_roundg (gk - 1)
     case measure=>omega
     case rel=>exact ⟨i+1,by omega,by omega,j.out.succ c.out hin.out,h,b.out⟩
    ·rw [hin] at a
     have hge:(0:Int)<=Lib.indexByte [13,10] x:=of_decide_eq_true a.symm;clear a;replace hin:=Hd hin;go_wp2_with (go_at_call 214;refine (Tryz.strings_IndexRune_ascii _ _ _ (by omega) (by omega)).mono ?_;rintro e w' ⟨rfl,hw⟩;rw [hw,l])
     go_ret;exact ⟨by rw [Lib.indexAny_hit j.out c.out hin.out];rfl,h⟩
   ·have p:128<=(s[i]'hlt).toNat:=by rw [hx];omega
    have f:=fun ty=>Lib.run_next_any_at (P:=Tryz.prog) wr w.heap.size s i ty hh hlt;obtain ⟨q1,q2⟩:=decode_high s i hlt p;have m:=noAny_skip j.out hlt p;have z:=(decode_skip s i hlt p).1;generalize Utf8.decode s i=d at *;obtain ⟨r,n⟩:=d;simp only at f q1 q2 m z;have b:=Lib.iterAt_heap wr w.heap.size s i (i+n) hh;have h:=Lib.below_iterAt hb (k:=w.heap.size) (Nat.le_refl _) s (i+n);generalize hw1:wr.iterAt w.heap.size s (i+n)=w1 at f b h;have o:w.heap.size<w1.heap.size:=(Array.getElem?_eq_some_iff.1 b).1;replace hw1:=Hd hw1;replace hh:=Hd hh;replace b:=Hd b;replace c:=Hd c;replace hx:=Hd hx;replace m:=Hd m;go_wp2_with fail
    refine (irune_any r (by omega) _).mono ?_;rintro e w2 ⟨rfl,v⟩;have q:w2.heap[w.heap.size]?=some (.stringIter s (i+n)):=by rw [v.block _ o];exact b.out
    have aa:=h.trans (v.mono (Nat.le_of_lt o));replace q:=Hd q;go_wp2
    go_roundg (gk - n)
    case measure=>omega
    case rel=>exact ⟨i+n,by omega,by omega,m.out,aa,q.out⟩
  ·obtain rfl:i=s.size:=by omega
   have f:=fun ty=>Lib.run_next_end_at (P:=Tryz.prog) wr w.heap.size s s.size ty hh (by omega);replace hh:=Hd hh;go_wp2;go_ret;exact ⟨by rw [Lib.indexAny_none (by rw [<-Lib.size_eq];exact j.out)];rfl,hb⟩
theorem iany_long (s:ByteArray) (w:World) (h8:8<s.size) (hmx:s.size<=9223372036854775807):Calls Tryz.prog 165 #[.string s,.string crlf] w fun e w' => e=.returned (.int .i64 (Lib.indexAny s.data.toList [13,10]))/\Below w.heap.size w w' := by
 have hM:=Tryz.strings_makeASCIISet zero60 crlf w (by decide) crlf_ascii;have j:decide ((8:Int)<(s.size:Int))=true:=decide_eq_true (by omega);have f:crlf.data.toList=[13,10]:=rfl;rw [f] at hM;have k:(storeCells ⟨w.heap.size+1,0,none⟩ (Lib.setCells [13,10]).toList 0).run Tryz.prog ((w.alloc (.cells (Lib.setCells [13,10]) 281)).alloc (.cells (Array.replicate 256 (.bool false)) 281))=.ok () ((w.alloc (.cells (Lib.setCells [13,10]) 281)).alloc (.cells (Lib.setCells [13,10]) 281)):=by
  have:=run_storeCells_new (P:=Tryz.prog) (w.alloc (.cells (Lib.setCells [13,10]) 281)) 281 (Array.replicate 256 (.bool false)) (Lib.setCells [13,10]) (by rw [Lib.setCells_size];exact info60) (by rw [Lib.setCells_size,Array.size_replicate]) (Lib.setCells_one _);simpa using this
 have l:=Lib.setCells_size [13,10];have a:∀x:UInt8,((w.alloc (.cells (Lib.setCells [13,10]) 281)).alloc (.cells (Lib.setCells [13,10]) 281)).cell? ⟨w.heap.size+1,x.toNat,none⟩=some (.bool ([13,10].contains x)):=fun x=>by
  rw [World.cell?_alloc_at _ _ _ _ (by simp),Lib.setCells_at]
 have b:Below w.heap.size w ((w.alloc (.cells (Lib.setCells [13,10]) 281)).alloc (.cells (Lib.setCells [13,10]) 281)):=((Below.refl _ _).alloc (Nat.le_refl _) _).alloc (by simp) _;replace a:=Hd a;replace b:=Hd b;have hz:=zero60
 go_enter Tryz.func165,Tryz.ntmps165
 go_wp2_with (first
  | (go_at_call 215;refine (Tryz.strings_shouldUseASCIISet _ _).mono ?_;rintro e w' ⟨rfl,hw⟩;rw [hw,j])
  | (go_at_call 216;refine hM.mono ?_;rintro e w' ⟨rfl,hw⟩;rw [hw]))
 clear hM k hz l f;generalize ((w.alloc (.cells (Lib.setCells [13,10]) 281)).alloc (.cells (Lib.setCells [13,10]) 281))=W2 at *
 go_loopg [8] s.size (fun g s8 wx=>∃i:Nat,i+g=s.size/\s8=.int .i64 i/\wx=W2/\Lib.NoAny s.data.toList [13,10] i)
 case atStart=>exact ⟨0,by omega,rfl,rfl,Lib.NoAny.zero _ _⟩
 case round=>
  obtain ⟨i,hig,rfl,rfl,c⟩:=hrel;replace c:=Hd c;cases gk with
  | zero=>
   obtain rfl:i=s.size:=by omega
   have m:¬((s.size:Int)<(s.size:Int)):=by omega
   go_wp2;go_ret;exact ⟨by rw [Lib.indexAny_none (by rw [<-Lib.size_eq];exact c.out)];rfl,b.out⟩
  | succ g=>
   have hi:i<s.size:=by omega
   have m:(i:Int)<(s.size:Int):=by omega
   obtain ⟨x,hx⟩:∃x:UInt8,s[i]'hi=x:=⟨_,rfl⟩;have d:s.data.toList[i]?=some x:=by rw [<-hx];exact Lib.data_getElem? s i hi
   replace d:=Hd d;have h:=a.out x;cases hin:[13,10].contains x<;>rw [hin] at h
   ·replace hin:=Hd hin
    go_wp2_with (go_at_call 217;refine (Tryz.asciiSet_contains _ x _ _ h).mono ?_;rintro e w' ⟨rfl,hw⟩;rw [hw])
    go_roundg g
    case measure=>omega
    case rel=>exact ⟨i+1,by omega,by first | rfl | simp,rfl,c.out.succ d.out hin.out⟩
   ·replace hin:=Hd hin
    go_wp2_with (go_at_call 217;refine (Tryz.asciiSet_contains _ x _ _ h).mono ?_;rintro e w' ⟨rfl,hw⟩;rw [hw])
    go_ret;exact ⟨by rw [Lib.indexAny_hit c.out d.out hin.out];rfl,b.out⟩
def E5 (s:ByteArray):Bool:=Lib.containsAny s.data.toList [13,10]
theorem cany_any (s:ByteArray) (w:World) (hmx:s.size<=9223372036854775807):Calls Tryz.prog 131 #[.string s,.string crlf] w fun e w' => e=.returned (.bool (E5 s))/\Below w.heap.size w w' := by
 have h:Calls Tryz.prog 165 #[.string s,.string crlf] w fun e w' => e=.returned (.int .i64 (Lib.indexAny s.data.toList [13,10]))/\Below w.heap.size w w' := by
  by_cases h8:s.size<=8
  ·exact iany_short s w h8
  ·exact iany_long s w (by omega) hmx
 unfold E5 Lib.containsAny;generalize Lib.indexAny s.data.toList [13,10]=q at *;replace h:=Hd h
 go_enter Tryz.func131,Tryz.ntmps131
 go_wp2_with fail
 refine h.out.mono ?_;rintro e w1 ⟨rfl,hb⟩;go_wp2;go_ret;exact ⟨rfl,hb⟩
