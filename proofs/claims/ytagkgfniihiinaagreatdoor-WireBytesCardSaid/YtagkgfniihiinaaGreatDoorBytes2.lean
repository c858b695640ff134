/- wire.Bytes and wire.Size, in both protocols. -/
import Derived.Test.YtagkgfniihiinaaGreatDoorOld
import Derived.Test.YtagkgfniihiinaaGreatDoorJ53
import Derived.Test.YtagkgfniihiinaaGreatDoorJ8
namespace Go.Proofs.YtagkgfniihiinaaGreatDoor
open Go.RowKit Go.Joins
def Ad (v : V) (p : Int) : List UInt8:=if p = 3 then v.wire else v.down.old
theorem Co {v : V} {p d : Int} (hf : v.fine d = true) (hr : v.ranged) (hc : v.count <= 100000) : 3 <= (Ad v p).length /\ (Ad v p).length <= 5000 * v.count:=by
 unfold Ad;split
 · exact wire_len v d hf hr hc
 · have h:=Dm v d hf hr
   have:=old_len v.down d h.fine h.ranged (by rw [h.count]; exact hc);rw [h.count] at this;exact this
set_option maxRecDepth 100000 in
set_option maxHeartbeats 1600000 in
theorem bytes2_any (v : V) (a : Option Addr) (cap : Nat) (d : Int) (p : Int) (hp3 : p ≠ 3) (w : World) (hv : RV w.cell? (Ae v.kind v.text v.int v.real v.flag a v.list.length cap) v) (hf : v.fine d = true) (hr : v.ranged) (hc : v.count <= 100000) (hL : LaidV w.heap.size w) :
   Calls Tryz.prog 16 #[.agg #[.int .i64 v.kind,.string v.text,.int .i64 v.int,.float .f64 v.real,.bool v.flag,.slice a v.list.length cap],.int .i64 p] w fun e w' => ∃ b,e = .returned b /\ Row w.heap.size w' b ⟨v.down.old.toArray⟩ /\ Below w.heap.size w w':=by
 obtain ⟨W1,hW1⟩ : ∃ W1,W1 = w.alloc (.cells #[.int .i64 v.kind,.string v.text,.int .i64 v.int,.float .f64 v.real,.bool v.flag,.slice a v.list.length cap] 26):=⟨_,rfl⟩
 have hb0 : Below w.heap.size w W1:=by rw [hW1]; exact (Below.refl _ _).alloc (Nat.le_refl _) _
 have hdn:=R2.down_any v v.kind v.text v.int v.real v.flag a v.list.length cap d W1 ⟨hv.mono (Aa hb0),hf,hr,hc,(hL.below hb0 (Nat.le_refl _)).mono hb0.size⟩
 have hok:=Dm v d hf hr
 have hs1:=hb0.size
 have hL1:=hL.below hb0 (Nat.le_refl _)
 rw [hW1] at hdn
 replace hdn:=Hd hdn
 replace hb0:=Hd hb0
 replace hW1:=Hd hW1
 replace hok:=Hd hok
 replace hL1:=Hd hL1
 clear hv hL
 go_enter Tryz.func16,Tryz.ntmps16
 go_wp2_with fail
 refine hdn.out.mono ?_
 rintro e w2 ⟨a2,c2,rfl,hrv,hb⟩
 rw [<- hW1.out] at hrv hb
 have hs2:=hb.size
 have hbw : Below w.heap.size w w2:=hb0.out.trans (hb.mono hs1)
 have hold:=old_any v.down v.down.kind v.down.text v.down.int v.down.real v.down.flag a2 v.down.list.length c2 d w2.heap.size w2 (.slice none 0 0) ⟨#[]⟩ ⟨hrv.mono (fun ad u h => older_of (Nat.le_refl _) _ _ (Fw ad u h)),hok.out.fine,hok.out.ranged,by rw [hok.out.count]; exact hc,(hL1.out.below (hb.mono hs1) (Nat.le_refl _)).mono (by omega),Row.nil _ _,Nat.le_refl _,by
   have e : (⟨#[]⟩ : ByteArray).size = 0:=rfl;rw [hok.out.count]; omega⟩
 replace hold:=Hd hold
 replace hbw:=Hd hbw
 clear hrv hb
 go_wp2_with fail
 refine hold.out.mono ?_
 rintro e w' ⟨b,rfl,hR,hb,-⟩
 rw [Cj] at hR
 have hb2:=hbw.out.trans (hb.mono (by omega))
 have hR':=hR.mono (show w.heap.size <= w2.heap.size by omega)
 clear hb hR
 replace hR':=Hd hR'
 replace hb2:=Hd hb2
 go_wp2_with fail
 go_ret
 exact ⟨_,rfl,hR'.out,hb2.out⟩
theorem Ge (v : V) (a : Option Addr) (cap : Nat) (d : Int) (p : Int) (w : World) (hv : RV w.cell? (Ae v.kind v.text v.int v.real v.flag a v.list.length cap) v) (hf : v.fine d = true) (hr : v.ranged) (hc : v.count <= 100000) (hL : LaidV w.heap.size w) :
   Calls Tryz.prog 16 #[.agg #[.int .i64 v.kind,.string v.text,.int .i64 v.int,.float .f64 v.real,.bool v.flag,.slice a v.list.length cap],.int .i64 p] w fun e w' => ∃ b,e = .returned b /\ Row w.heap.size w' b ⟨(Ad v p).toArray⟩ /\ Below w.heap.size w w':=by
 unfold Ad
 by_cases h3 : p = 3
 · subst h3
   rw [if_pos rfl];exact bytes3_any v a cap d w hv hf hr hc hL
 · rw [if_neg h3]
   exact bytes2_any v a cap d p h3 w hv hf hr hc hL
set_option maxRecDepth 100000 in
set_option maxHeartbeats 1600000 in
theorem size_any (v : V) (a : Option Addr) (cap : Nat) (d : Int) (p : Int) (w : World) (hv : RV w.cell? (Ae v.kind v.text v.int v.real v.flag a v.list.length cap) v) (hf : v.fine d = true) (hr : v.ranged) (hc : v.count <= 100000) (hL : LaidV w.heap.size w) :
   Calls Tryz.prog 20 #[.agg #[.int .i64 v.kind,.string v.text,.int .i64 v.int,.float .f64 v.real,.bool v.flag,.slice a v.list.length cap],.int .i64 p] w fun e w' => e = .returned (.int .i64 ((Ad v p).length : Nat)) /\ Below w.heap.size w w':=by
 obtain ⟨W1,hW1⟩ : ∃ W1,W1 = w.alloc (.cells #[.int .i64 v.kind,.string v.text,.int .i64 v.int,.float .f64 v.real,.bool v.flag,.slice a v.list.length cap] 26):=⟨_,rfl⟩
 have hb0 : Below w.heap.size w W1:=by rw [hW1]; exact (Below.refl _ _).alloc (Nat.le_refl _) _
 have hby:=Ge v a cap d p W1 (hv.mono (Aa hb0)) hf hr hc ((hL.below hb0 (Nat.le_refl _)).mono hb0.size)
 have hln:=(Co (p:=p) hf hr hc).1
 have hs1:=hb0.size
 rw [hW1] at hby
 replace hby:=Hd hby
 replace hb0:=Hd hb0
 replace hW1:=Hd hW1
 clear hv hL
 go_enter Tryz.func20,Tryz.ntmps20
 go_wp2_with fail
 refine hby.out.mono ?_
 rintro e w2 ⟨b,rfl,hR,hb⟩
 rw [<- hW1.out] at hR hb
 have hbw : Below w.heap.size w w2:=hb0.out.trans (hb.mono hs1)
 have hsz : (⟨(Ad v p).toArray⟩ : ByteArray).size = (Ad v p).length:=Aq _
 obtain ⟨g,ca,rfl⟩:=hR.len (by omega)
 rw [hsz]
 replace hbw:=Hd hbw
 clear hR hb hsz
 go_wp2_with fail
 go_ret
 exact ⟨rfl,hbw.out⟩
end Go.Proofs.YtagkgfniihiinaaGreatDoor
