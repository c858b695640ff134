/- The chapter's example. -/
import Derived.Test.YteoalcmhdoopnaaGreatDoorJ23
namespace Go.Proofs.YteoalcmhdoopnaaGreatDoor
open Go.RowKit
theorem one_text:sumT (0+1)=⟨#[49]⟩:=by
 have:Lib.itoa (0+1)=[49]:=by
   show Lib.itoa 1=[49];unfold Lib.itoa;rw [if_neg (by decide),show (1:Int).toNat=1 from rfl,Lib.decDigits];rfl
 unfold sumT;rw [this]
theorem one_cost:Ga ⟨#[107]⟩ 1 ⟨#[49]⟩ []=57:=by
 have h:wP ([49]:List UInt8)=some 1:=by
   rw [wP_iff];refine ⟨⟨by decide,by decide⟩,?_⟩;unfold Lib.itoa;rw [if_neg (by decide),show (1:Int).toNat=1 from rfl,Lib.decDigits];rfl
 have h' : wP (⟨#[49]⟩:ByteArray).data.toList=some 1:=h;unfold Ga;rw [h'];rfl
set_option maxRecDepth 100000 in
set_option maxHeartbeats 3200000 in
theorem alive09_any (w:World) (hN:Nums w):Calls Tryz.prog 6 #[] w fun e w' => e=.returned (.bool true)/\Below w.heap.size w w' := by
 have hadd:=iadd_in 0 ⟨#[]⟩ none 0 0 1 0 w (by decide) rfl ⟨by decide,by decide⟩ ⟨by decide,by decide⟩ (by decide) hN;rw [one_text] at hadd;replace hadd:=Hd hadd;replace hN:=Hd hN
 go_enter Tryz.func6,Tryz.ntmps6
 go_wp2_with fail
 refine hadd.out.mono ?_;rintro e w1 ⟨rfl,hb1⟩;have hN1:=hN.out.below hb1;have hb2:Below w.heap.size w (w1.alloc (.cells #[.int .i64 1,.string ⟨#[49]⟩,.slice none 0 0] 24)):=hb1.alloc hb1.size _;have hN2:=hN.out.below hb2;have hc:=cost_any ⟨#[107]⟩ 1 ⟨#[49]⟩ none 0 0 [] (w1.alloc (.cells #[.int .i64 1,.string ⟨#[49]⟩,.slice none 0 0] 24)) (Reads.nil _ _ _ _) (by omega) (by decide) (by decide) (by simp) hN2;rw [one_cost] at hc;replace hc:=Hd hc;replace hb2:=Hd hb2;clear hN1 hN2 hb1;go_wp2_with fail
 refine hc.out.mono ?_;rintro e w3 ⟨rfl,hb3⟩;have hbel:=hb2.out.trans (hb3.mono hb2.out.size);clear hb3;go_wp2;go_ret;exact ⟨rfl,hbel⟩
end Go.Proofs.YteoalcmhdoopnaaGreatDoor
