/- WireCommands: its walk. -/
import Derived.Test.YtagkgfniihiinaaGreatDoorWire2
import Derived.Deep.AppendLies
import Derived.Test.YtagkgfniihiinaaGreatDoorJ40
namespace Go.Proofs.YtagkgfniihiinaaGreatDoor
open Go.RowKit Go.Joins
theorem addr_add0 (g q : Nat) : (⟨g,0,none⟩ : Addr).add q = ⟨g,q,none⟩:=by
 unfold Addr.add; split <;> simp_all
theorem Row.back {B : Nat} {w : World} {v : Value} {s : ByteArray} (h : Row B w v s) (hs : 0 < s.size) : (convert 27 9 v).run Tryz.prog w = .ok (.string s) w:=by
 obtain ⟨g,ca,rfl,hg1,hg2⟩:=h.own.form (by omega);have hl : s.size = s.data.toList.length:=by rw [Array.length_toList]; rfl
 have h7:=run_convert_bytes_back (P:=Tryz.prog) w 27 9 5 ⟨g,0,none⟩ ca s.data.toList Tryz.underlying27 Tryz.underlying5 Tryz.underlying9 (fun q hq => by
   have h9:=addr_add0 g q;have h8:=h.own.cellAt q (by rw [hl]; simpa using hq);rw [h9,h8,Lib.strCells,List.getElem?_map,List.getElem?_eq_getElem hq];rfl)
 rw [<- hl] at h7;rw [h7]
theorem Row.len {B : Nat} {w : World} {v : Value} {s : ByteArray} (h : Row B w v s) (hs : 0 < s.size) : ∃ g ca,v = .slice (some ⟨g,0,none⟩) s.size ca:=by
 obtain ⟨g,ca,rfl,_⟩:=h.own.form (by omega);exact ⟨g,ca,rfl⟩
theorem reads_new1 (ks : List ByteArray) (n : Nat) (hn : ks.length = n) (w : World) : Reads (w.alloc (.cells (ks.map Value.string).toArray 9)) 1 (.slice (some ⟨w.heap.size,0,none⟩) n n) n (ks.map Value.string):=
 ⟨_,_,rfl,by simp [hn],fun j u h => ⟨w.heap.size,0,rfl,by rw [Nat.zero_add,World.cell?_alloc_new]; simpa using h⟩⟩
def exA : ByteArray:=⟨#[42,49,13,10,36,49,13,10,97,13,10]⟩
theorem exA_eq : commandB [⟨#[97]⟩] = exA:=by decide +kernel
theorem exA_lit : (exA.toList == [42,49,13,10,36,49,13,10,97,13,10]) = true:=by decide +kernel
set_option maxRecDepth 100000 in
set_option maxHeartbeats 1600000 in
theorem alive04_any (w : World) (hL : Laid w.heap.size w) : Calls Tryz.prog 15 #[] w fun e w' => e = .returned (.bool true) /\ Below w.heap.size w w':=by
 have hrd : Reads (w.alloc (.cells #[.string ⟨#[97]⟩] 9)) 1 (.slice (some ⟨w.heap.size,0,none⟩) 1 1) 1 ([(⟨#[97]⟩ : ByteArray)].map Value.string):=reads_new1 [⟨#[97]⟩] 1 rfl w;have hb1:=(Below.refl w.heap.size w).alloc (Nat.le_refl _) (.cells #[.string ⟨#[97]⟩] 9);have hL1:=(hL.below hb1 (Nat.le_refl _)).mono hb1.size;replace hrd:=Hd hrd;replace hL1:=Hd hL1;replace hb1:=Hd hb1;clear hL
 go_enter Tryz.func15,Tryz.ntmps15
 go_wp2_with fail
 refine (command_any hrd.out (by intro t ht; rw [List.mem_singleton] at ht; subst ht; decide) (by omega) hL1.out).mono ?_;rintro e w2 ⟨v2,rfl,hR2,hb2⟩;rw [exA_eq] at hR2;have hb3:=hb1.out.trans (hb2.mono hb1.out.size);have hcv:=hR2.back (by decide);clear hR2 hb2 hL1 hrd hb1;replace hb3:=Hd hb3;go_wp2_with fail
 go_ret;refine ⟨?_,hb3.out⟩;show Ending.returned (.bool (exA.toList == [42,49,13,10,36,49,13,10,97,13,10])) = _;rw [exA_lit]
theorem Ab {w w' : World} {b o : Nat} {cs : List Value} (hb : Below w.heap.size w w') (h : w.rangeAt b o cs) : w'.rangeAt b o cs:=fun j u hj => Aa hb _ _ (h j u hj)
theorem Row.mono {B B' : Nat} {w : World} {v : Value} {s : ByteArray} (h : Row B w v s) (hB : B' <= B) : Row B' w v s:=by
 refine ⟨h.own.1,?_⟩;rcases h.own.2 with h2 | ⟨g,cap,cur,e1,e2,e3⟩
 · exact Or.inl h2
 · exact Or.inr ⟨g,cap,cur,e1,by omega,e3⟩
end Go.Proofs.YtagkgfniihiinaaGreatDoor
