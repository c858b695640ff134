/- strings.Replacer: what "\r", " ", "\n", " " is built into. -/
import Derived.Test.YtagkgfniihiinaaGreatDoorRplB
import Derived.Lib.OthersKept
import Derived.Deep.WholeRow
import Derived.Deep.LoopGhost
namespace Go.Proofs.YtagkgfniihiinaaGreatDoor
open Go.RowKit
theorem zeroBR (w : World) : (zeroValue 168).run Tryz.prog w = .ok (.agg (Array.replicate 256 (.int .u8 0))) w:=by kernel_rfl
theorem infoBR : (Tryz.prog.info? 168).map (·.size) = some 256:=by kernel_rfl
theorem buildBR (w : World) : (Instr.build 168 #[]).run Tryz.prog w = .ok (.agg (Array.replicate 256 (.int .u8 0))) w:=run_build w _ #[] _ (by kernel_rfl)
def blank (b : Nat) : Nat:=if b = 13 \/ b = 10 then 32 else b
structure Four (w : World) (o : Nat) : Prop where
 c0 : w.cell? ⟨o,0,none⟩ = some (.string ⟨#[13]⟩)
 c1 : w.cell? ⟨o,1,none⟩ = some (.string ⟨#[32]⟩)
 c2 : w.cell? ⟨o,2,none⟩ = some (.string ⟨#[10]⟩)
 c3 : w.cell? ⟨o,3,none⟩ = some (.string ⟨#[32]⟩)
def part (j b : Nat) : Nat:=if (1 <= j /\ b = 10) \/ (2 <= j /\ b = 13) then 32 else b
def Tbl (w : World) (g : Nat) (f : Nat -> Nat) : Prop:=∀ b,b < 256 -> w.cell? ⟨g,b,none⟩ = some (.int .u8 (f b : Nat))
theorem Four.of {w w' : World} {o : Nat} (h : Four w o) (e : w'.heap[o]? = w.heap[o]?) : Four w' o:=
 have k : ∀ q,w'.cell? ⟨o,q,none⟩ = w.cell? ⟨o,q,none⟩:=fun q => by simp only [World.cell?,e]
 ⟨(k _).trans h.c0,(k _).trans h.c1,(k _).trans h.c2,(k _).trans h.c3⟩
theorem Four.lt {w : World} {o : Nat} (h : Four w o) : o < w.heap.size:=World.block_lt_of_cell? _ _ h.c0
theorem Tbl.set {w : World} {g b0 : Nat} {f f' : Nat -> Nat} (h : Tbl w g f) (h0 : b0 < 256) (hs : f' b0 = 32) (ho : ∀ b,b ≠ b0 -> f' b = f b) : Tbl (w.setCell ⟨g,b0,none⟩ (.int .u8 32)) g f':=fun b hb => by
 by_cases hbj : b = b0
 · subst hbj; rw [hs]; exact As (h b hb)
 · rw [Af (fun e => hbj (by cases e; rfl)),ho b hbj]; exact h b hb
set_option maxRecDepth 1000000 in
set_option maxHeartbeats 3200000 in
theorem build_any {r o cp : Nat} {w : World} (hs : w.cell? ⟨r,4,none⟩ = some (.slice (some ⟨o,0,none⟩) 4 cp)) (hf : Four w o) :
   Calls Tryz.prog 100 #[.pointer (some ⟨r,0,none⟩)] w fun e w' => ∃ g,e = .returned (.iface 169 (.pointer (some ⟨g,0,none⟩))) /\ w.heap.size <= g /\ Tbl w' g blank /\ Blk w' g /\ Below w.heap.size w w':=by
 have hol:=hf.lt
 obtain ⟨c0,c1,c2,c3⟩:=hf
 have hf : Hid (Four w o):=Hd ⟨c0,c1,c2,c3⟩
 have hz:=buildBR
 have hz0:=zeroBR
 have hZs : (Array.replicate 256 (Value.int .u8 0)).size = 256:=Array.size_replicate
 have hZo : (Array.replicate 256 (Value.int .u8 0)).all (·.oneCell') = true:=by rw [Array.all_eq_true]; intro i hi; rw [Array.getElem_replicate]; rfl
 have hZc : ∀ b,b < 256 -> (Array.replicate 256 (Value.int .u8 0))[b]? = some (.int .u8 0):=fun b hb => by rw [Array.getElem?_replicate]; simp [hb]
 generalize Array.replicate 256 (Value.int .u8 0) = Z at hz hz0 hZs hZo hZc
 have hsc : (storeCells ⟨w.heap.size,0,none⟩ Z.toList 0).run Tryz.prog (w.alloc (.cells Z 168)) = .ok () (w.alloc (.cells Z 168)):=by
   have:=run_storeCells_new (P:=Tryz.prog) w 168 Z Z (by rw [hZs]; exact infoBR) rfl hZo;simpa using this
 have hbel : Below w.heap.size w (w.alloc (.cells Z 168)):=(Below.refl _ _).alloc (Nat.le_refl _) _
 have hZ0 : ∀ b,b < 256 -> (w.alloc (.cells Z 168)).cell? ⟨w.heap.size,b,none⟩ = some (.int .u8 0):=fun b hb => by rw [World.cell?_alloc_at _ _ _ _ (by simp)]; exact hZc b hb
 have hZk : Blk (w.alloc (.cells Z 168)) w.heap.size:=Blk.new _ _ _
 clear hZo hZc
 replace hZ0:=Hd hZ0
 replace hZk:=Hd hZk
 replace hbel:=Hd hbel
 go_enter Tryz.func100,Tryz.ntmps100
 replace hsc:=Hd hsc
 go_wp2_with fail
 go_loopw [4,5] (fun v i wr => ∃ j : Nat,j <= 2 /\ i = .int .i64 (2 * j : Nat) /\ v = .bool true /\ w = wr) (fun _ i _ => 4 - (intOf i).toNat)
 case atStart => exact ⟨0,by omega,rfl,rfl,rfl⟩
 case round =>
   obtain ⟨j,hj,rfl,rfl,rfl⟩:=hrel;obtain rfl | rfl | rfl : j = 0 \/ j = 1 \/ j = 2:=by omega
   · go_wp2_with fail
     go_round
     case measure => simp [intOf]
     case rel => exact ⟨1,by omega,rfl,rfl,trivial⟩
   · go_wp2_with fail
     go_round
     case measure => simp [intOf]
     case rel => exact ⟨2,by omega,rfl,rfl,trivial⟩
   · replace hsc:=hsc.out
     go_wp2_with fail
     replace hsc:=Hd hsc;clear hz hz0;generalize w.alloc (.cells Z 168) = W0 at *;obtain ⟨g,hg⟩ : ∃ g,w.heap.size = g:=⟨_,rfl⟩;have hwg : g <= w.heap.size:=by omega
     have hgw : w.heap.size <= g:=by omega
     rw [hg] at hol hZ0 hZk hbel ⊢;clear hg;clear hsc hj;go_loopw [61] (fun i wx => ∃ j : Nat,j <= 256 /\ i = .int .i64 j /\ Blk wx g /\ (∀ b,b < j -> wx.cell? ⟨g,b,none⟩ = some (.int .u8 b)) /\ (∀ b,b < 256 -> ∃ u,wx.cell? ⟨g,b,none⟩ = some u) /\ Below g w wx) (fun i _ => 256 - (intOf i).toNat)
     case atStart => exact ⟨0,by omega,rfl,hZk.out,fun b hb => absurd hb (by omega),fun b hb => ⟨_,hZ0.out b hb⟩,hbel.out⟩
     case round =>
       obtain ⟨j,hj,rfl,hk,ha,hs',hb⟩:=hrel;clear hZ0 hZk hbel;have hsj:=fun h => hs' j h;replace ha:=Hd ha;replace hs':=Hd hs';replace hb:=Hd hb;by_cases hlt : j < 256
       · obtain ⟨u,hu⟩:=hsj hlt
         have hz:=hk.frz j none;replace hk:=Hd hk;have hlti : (j : Int) < 256:=by omega
         go_wp2_with fail
         go_round
         case measure => simp [intOf]; omega
         case rel =>
           refine ⟨j + 1,by omega,rfl,hk.out.setCell _ _,?_,?_,Fr.below ((Fr.of_below hb.out).setCell (fun _ => Nat.le_refl _) _) hwg fun i hi => by omega⟩
           · intro b hb'
             by_cases hbj : b = j
             · subst hbj; exact As hu
             · rw [Af (by simp [hbj])]; exact ha.out b (by omega)
           · intro b hb'
             by_cases hbj : b = j
             · subst hbj; exact ⟨_,As hu⟩
             · rw [Af (by simp [hbj])]; exact hs'.out b hb'
       · obtain rfl : j = 256:=by omega
         go_wp2_with fail
         clear hj hsj c0 c1 c2 c3;have hT : Hid (Tbl wr g (part 0)):=Hd fun b hb' => by rw [ha.out b hb']; simp [part]
         clear ha hs';have e10 : ∀ h,((⟨#[10]⟩ : ByteArray)[0]'h).toNat = 10:=fun _ => rfl;have e13 : ∀ h,((⟨#[13]⟩ : ByteArray)[0]'h).toNat = 13:=fun _ => rfl;have e32 : ∀ h,((⟨#[32]⟩ : ByteArray)[0]'h).toNat = 32:=fun _ => rfl;go_loopw [8] (fun i wx => ∃ j : Nat,j <= 2 /\ i = .int .i64 (2 - 2 * j : Int) /\ Blk wx g /\ Tbl wx g (part j) /\ Below g w wx) (fun i _ => (intOf i + 2).toNat)
         case atStart => exact ⟨0,by omega,rfl,hk,hT.out,hb.out⟩
         case round =>
           clear hk hT hb;obtain ⟨j,hj,rfl,hk,hT,hb⟩:=hrel;obtain ⟨c0,c1,c2,c3⟩:=hf.out.of (hb.block o hol);obtain rfl | rfl | rfl : j = 0 \/ j = 1 \/ j = 2:=by omega
           · have hz:=hk.frz 10 none
             have hu:=hT 10 (by omega);replace hk:=Hd hk;replace hT:=Hd hT;replace hb:=Hd hb;go_wp2_with fail
             go_round
             case measure => simp [intOf]
             case rel => exact ⟨1,by omega,rfl,hk.out.setCell _ _,hT.out.set (by omega) (by simp [part]) (fun b hb' => by simp [part,hb']),Fr.below ((Fr.of_below hb.out).setCell (fun _ => Nat.le_refl _) _) hwg fun i hi => by omega⟩
           · have hz:=hk.frz 13 none
             have hu:=hT 13 (by omega);replace hk:=Hd hk;replace hT:=Hd hT;replace hb:=Hd hb;go_wp2_with fail
             go_round
             case measure => simp [intOf]
             case rel => exact ⟨2,by omega,rfl,hk.out.setCell _ _,hT.out.set (by omega) (by simp [part]) (fun b hb' => by simp [part,hb']),Fr.below ((Fr.of_below hb.out).setCell (fun _ => Nat.le_refl _) _) hwg fun i hi => by omega⟩
           · replace hk:=Hd hk
             replace hT:=Hd hT;replace hb:=Hd hb;go_wp2_with fail
             go_ret;exact ⟨g,rfl,hgw,fun b hb' => by rw [hT.out b hb']; unfold part blank; by_cases h1 : b = 13 <;> by_cases h2 : b = 10 <;> simp [h1,h2],hk.out,hb.out.mono hgw⟩
structure Built (r : Nat) (w w' : World) : Prop where
 tab : ∃ g,w'.cell? ⟨r,3,none⟩ = some (.iface 169 (.pointer (some ⟨g,0,none⟩))) /\ w.heap.size <= g /\ Tbl w' g blank
 fr : Fr (fun k => k = r) w w'
theorem Tbl.of {w w' : World} {g : Nat} {f : Nat -> Nat} (h : Tbl w g f) (e : w'.heap[g]? = w.heap[g]?) : Tbl w' g f:=fun b hb => by rw [<- h b hb]; simp only [World.cell?,e]
theorem Tbl.lt {w : World} {g : Nat} {f : Nat -> Nat} (h : Tbl w g f) : g < w.heap.size:=World.block_lt_of_cell? _ _ (h 0 (by decide))
set_option maxRecDepth 100000 in
theorem buildOnce_any {r o cp : Nat} {u3 : Value} {w : World} (hs : w.cell? ⟨r,4,none⟩ = some (.slice (some ⟨o,0,none⟩) 4 cp)) (h3 : w.cell? ⟨r,3,none⟩ = some u3) (hf : Four w o) (hk : Blk w r) :
   Calls Tryz.prog 82 #[.pointer (some ⟨r,0,none⟩)] w fun e w' => e = .returned (.tuple #[]) /\ Built r w w' /\ Blk w' r /\ ∀ q,q < 3 -> w'.cell? ⟨r,q,none⟩ = w.cell? ⟨r,q,none⟩:=by
 have hk':=Hd hk
 have hf':=Hd hf
 have hs':=Hd hs
 have hrl:=hk.lt
 clear hk hf
 go_enter Tryz.func82,Tryz.ntmps82
 go_wp2_with fail
 refine (build_any hs hf'.out).mono ?_
 rintro e w1 ⟨g,rfl,hg,hT,hgk,hb⟩
 have h4 : w1.cell? ⟨r,4,none⟩ = some (.slice (some ⟨o,0,none⟩) 4 cp):=(hb.cell (World.block_lt_of_cell? _ _ hs)).trans hs
 replace h3 : w1.cell? ⟨r,3,none⟩ = some u3:=(hb.cell (World.block_lt_of_cell? _ _ h3)).trans h3
 have hk1:=hk'.out.of_block (hb.block r hrl)
 have hz3:=hk1.frz 3 none
 have hz4:=hk1.frz 4 none
 have hold : ∀ q,w1.cell? ⟨r,q,none⟩ = w.cell? ⟨r,q,none⟩:=fun q => by simp only [World.cell?,hb.block r hrl]
 have hb':=Hd hb
 replace hT:=Hd hT
 replace hold:=Hd hold
 replace hk1:=Hd hk1
 clear hb hs hgk
 go_wp2_with fail
 go_end0
 have hgr : r ≠ g:=by omega
 refine ⟨rfl,⟨⟨g,?_,hg,hT.out.of ?_⟩,?_⟩,(hk1.out.setCell _ _).setCell _ _,fun q hq => ?_⟩
 · rw [Af (by simp)]; exact As h3
 · exact (Fr.setCell (S:=fun k => k = r) (Fr.setCell (S:=fun k => k = r) (Fr.refl _ _) (fun _ => rfl) _) (fun _ => rfl) _).block g hT.out.lt (fun e => hgr e.symm)
 · exact Fr.setCell (S:=fun k => k = r) (Fr.setCell (S:=fun k => k = r) ((Fr.of_below hb'.out).mono fun i hi h => absurd hi (by omega)) (fun _ => rfl) _) (fun _ => rfl) _
 · rw [Af (fun e => by cases e; omega),Af (fun e => by cases e; omega)]; exact hold.out q
end Go.Proofs.YtagkgfniihiinaaGreatDoor
