/- client.Words: how a mode is asked for. -/
import Derived.Test.YtfaihaoajdcjbaaGreatDoorModeC
import Derived.Test.YtfaihaoajdcjbaaGreatDoorJ9
import Derived.Test.YtfaihaoajdcjbaaGreatDoorJ30
import Derived.RangeFuncNested
import Derived.RangeFuncLeaves
import Derived.Shelf.Abstract
import Derived.OwnWalkIn
import Derived.TacticsInMore
import Derived.LoopNIn
import Derived.LoopIn
import Derived.Test.YtfaihaoajdcjbaaGreatDoorRngB
set_option linter.all false
namespace Go.Proofs.YtfaihaoajdcjbaaGreatDoor
open Go.RowKit Go.Joins
abbrev B2:ByteArray:=⟨#[67,76,73,69,78,84]⟩
abbrev Be:ByteArray:=⟨#[84,82,65,67,75,73,78,71]⟩
abbrev tOn:ByteArray:=⟨#[79,78]⟩
abbrev Ap:ByteArray:=⟨#[82,69,68,73,82,69,67,84]⟩
abbrev C0:ByteArray:=⟨#[66,67,65,83,84]⟩
abbrev Co:ByteArray:=⟨#[80,82,69,70,73,88]⟩
abbrev B7:ByteArray:=⟨#[79,80,84,73,78]⟩
abbrev B1:ByteArray:=⟨#[79,80,84,79,85,84]⟩
abbrev Ct:ByteArray:=⟨#[78,79,76,79,79,80]⟩
def preW (p:ByteArray):List ByteArray:=if p=⟨#[]⟩ then [] else [Co,p]
def headM (m:Md):List ByteArray:=[B2,Be,tOn]++(if m.redirect=0 then [] else [Ap,⟨(Lib.itoa m.redirect).toArray⟩])++(if m.bcast=true then [C0] else [])
def A4 (m:Md):List ByteArray:=headM m++m.prefixes.flatMap preW++(if m.optin=true then [B7] else [])++(if m.optout=true then [B1] else [])++(if m.noloop=true then [Ct] else [])
def WAp (n0:Nat) (W:World) (vo:Value) (ws:List ByteArray) (v:Value) (w:World):Prop:=w.ownsRow n0 9 1 v ws.length (ws.map Value.string)/\Fr (fun k=>vo.ownBlock=some k) W w/\∀k,v.ownBlock=some k->vo.ownBlock=some k\/W.heap.size<=k
def wtR (C:Nat) (vo:Value) (i:Nat) (w w' : World):Prop:=match i with
 | 3 | 4=>Below w.heap.size w w'
 | 5=>Fr (fun k=>vo.ownBlock=some k) w w'
 | 6=>Fr (fun k=>k=C) w w'
 | _=>w' = w
structure WOut (n0:Nat) (w:World) (C:Nat) (ws:List ByteArray):Prop where
 out:∃v,w.cell? ⟨C,0,none⟩=some v/\w.ownsRow n0 9 1 v ws.length (ws.map Value.string)/\v.ownBlock≠some C
 blk:Blk w C
 le:n0<=C
theorem WOut.below {n0 C:Nat} {w w' : World} {ws:List ByteArray} (h:WOut n0 w C ws) (hb:Below w.heap.size w w'):WOut n0 w' C ws:=
 ⟨let ⟨v,h1,h2,h3⟩:=h.out;⟨v,Aa hb _ _ h1,Br h2 hb (Nat.le_refl _),h3⟩,h.blk.of_block (hb.block _ h.blk.lt),h.le⟩
theorem WOut.step {n0 C:Nat} {W w1:World} {vo v:Value} {ws ys:List ByteArray} (hc:W.cell? ⟨C,0,none⟩=some vo) (hb:Blk W C) (hle:n0<=C) (hne:vo.ownBlock≠some C) (h:WAp n0 W vo (ws++ys) v w1):WOut n0 (w1.setCell ⟨C,0,none⟩ v) C (ws++ys)/\Fr (fun k=>k=C\/vo.ownBlock=some k) W (w1.setCell ⟨C,0,none⟩ v):=by
 obtain ⟨h1,h2,h3⟩:=h;have hlt:=hb.lt;have hvn:v.ownBlock≠some C:=fun e=>(h3 C e).elim hne (fun h=>by omega);exact ⟨⟨⟨v,Af (h2.cell hc hne),Dj (S:=fun k=>k=C) h1 ((Fr.refl (fun k=>k=C) w1).setCell (fun _=>rfl) _) (fun k hk e=>hvn (by rw [<-e];exact hk)),hvn⟩,(hb.fr h2 hne).setCell _ _,hle⟩,(h2.mono (fun _ _ e=>.inr e)).setCell (fun _=>.inl rfl) _⟩
attribute [local go_sem] Oper.semAt_some
set_option maxRecDepth 100000 in
set_option maxHeartbeats 2000000 in
theorem all_in (l:Nat) (p0 p1 p2:Bool) (J:Nat->World->Prop) (W:World)
   (hY0:∀W', J 0 W' -> YieldAt Fence.wide 1 Tryz.prog l #[.string B7,.bool p0] W' fun e W'' => e=.returned (.bool true)/\J 1 W'')
   (hY1:∀W', J 1 W' -> YieldAt Fence.wide 1 Tryz.prog l #[.string B1,.bool p1] W' fun e W'' => e=.returned (.bool true)/\J 2 W'')
   (hY2:∀W', J 2 W' -> YieldAt Fence.wide 1 Tryz.prog l #[.string Ct,.bool p2] W' fun e W'' => e=.returned (.bool true)/\J 3 W'')
   (hJ:∀k W', J k W' -> W'.cell? ⟨W.heap.size,0,none⟩=some (.bool p0)/\W'.cell? ⟨W.heap.size,1,none⟩=some (.bool p1)/\W'.cell? ⟨W.heap.size,2,none⟩=some (.bool p2))
   (h0:J 0 (W.alloc (.cells #[.bool p0,.bool p1,.bool p2] 97))) :
   CallsIn Fence.wide 2 Tryz.prog 55 #[.agg #[.bool p0,.bool p1,.bool p2],.func (.yield l) #[] #[]] W fun e W' => (∃v,e=.returned v)/\J 3 W' := by
 obtain ⟨W1,hW1⟩:∃W1,W1=W.alloc (.cells #[.bool p0,.bool p1,.bool p2] 97):=⟨_,rfl⟩;rw [<-hW1] at h0;obtain ⟨f1,t1,a1,k1,hy1,hR1⟩:=hY0 W1 h0;obtain ⟨e0,_,_⟩:=hJ 0 W1 h0;replace hY0:=Hd hY0;replace hY1:=Hd hY1;replace hY2:=Hd hY2;replace hJ:=Hd hJ;refine callsIn_of_wp Tryz.func55 rfl trivial ?_ rfl;simp only [Tryz.ntmps55,List.size_toArray,List.length_cons,List.length_nil,Nat.reduceAdd,Nat.reduceSub,Array.replicate_succ,Array.replicate_zero,List.push_toArray,List.append_toArray,List.nil_append,List.cons_append];rw [hW1] at hy1 e0 hR1 h0
 gi_wp2
 refine hR1.mono ?_;rintro e W2 ⟨rfl,hJ1⟩;obtain ⟨f2,t2,a2,k2,hy2,hR2⟩:=hY1.out W2 hJ1;obtain ⟨_,e1,_⟩:=hJ.out 1 W2 hJ1
 gi_wp2
 refine hR2.mono ?_;rintro e W3 ⟨rfl,hJ2⟩;obtain ⟨f3,t3,a3,k3,hy3,hR3⟩:=hY2.out W3 hJ2;obtain ⟨_,_,e2⟩:=hJ.out 2 W3 hJ2
 gi_wp2
 refine hR3.mono ?_;rintro e W4 ⟨rfl,hJ3⟩
 gi_wp2
 go_end0
 exact ⟨⟨_,rfl⟩,hJ3⟩
end Go.Proofs.YtfaihaoajdcjbaaGreatDoor
