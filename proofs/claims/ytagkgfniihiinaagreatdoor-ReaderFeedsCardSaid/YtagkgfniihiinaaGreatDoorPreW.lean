/- internal/strconv.prescale and the small ones beside it. -/
import Derived.Test.YtagkgfniihiinaaGreatDoorUscW
import Derived.Test.YtagkgfniihiinaaGreatDoorJ50
import Derived.Test.YtagkgfniihiinaaGreatDoorJ69
set_option linter.all false
namespace Go.Proofs.YtagkgfniihiinaaGreatDoor
open Go.RowKit
def Pows (w:World):Prop:=∀p:Int,-348<=p->p<=347->w.cell? ⟨8,(p+348).toNat * 2,none⟩=some (.int .u64 (hiT p:Int))/\w.cell? ⟨8,(p+348).toNat * 2+1,none⟩=some (.int .u64 (loT p:Int))
theorem Pows.lt {w:World} (h:Pows w):8<w.heap.size:=World.block_lt_of_cell? _ _ (h 0 (by decide) (by decide)).1
theorem Pows.fr {S:Nat->Prop} {w w' : World} (h:Pows w) (hf:Fr S w w') (hS:¬S 8):Pows w' := fun p h0 h1=>⟨hf.cell (h p h0 h1).1 hS,hf.cell (h p h0 h1).2 hS⟩
theorem Pows.below {B:Nat} {w w' : World} (h:Pows w) (hb:Below B w w') (hB:8<B):Pows w' := h.fr (Fr.of_below hb) (Nat.not_le_of_lt hB)
theorem log2P_any (x:Int) (h0:-1000<=x) (h1:x<=1000) (w:World):Calls Tryz.prog 173 #[.int .i64 x] w fun e w' => e=.returned (.int .i64 (lp10 x))/\w' = w:=by
 go_enter Tryz.func173,Tryz.ntmps173
 go_wp2;go_ret;exact ⟨rfl,rfl⟩
theorem round_any (u:Nat) (h:u<18446744073709551000) (w:World):Calls Tryz.prog 178 #[.int .u64 (u:Int)] w fun e w' => e=.returned (.int .u64 ((rndU u:Nat):Int))/\w' = w:=by
 obtain ⟨q,hq⟩:∃q,q=u / 4:=⟨_,rfl⟩;have hd:((u:Int)) / 4=(q:Int):=by omega
 obtain ⟨m,hm⟩:∃m,m=q % 2:=⟨_,rfl⟩;have hand:bits .and .u64 (q:Int) 1=(m:Int):=by
   have:=Ce (x:=q) (y:=1) (by omega) (by omega);rw [and_1,<-hm] at this;exact this
 have hr:((u:Int)+1+(m:Int)) / 4=((rndU u:Nat):Int):=by unfold rndU;omega
 have hm2:m<=1:=by omega
 generalize rndU u=r at *;clear hq hm
 go_enter Tryz.func178,Tryz.ntmps178
 go_wp2;go_ret;exact ⟨rfl,rfl⟩
theorem hi_lt {p:Int} (h0:-348<=p) (h1:p<=347):9223372036854775808<=hiT p/\hiT p<18446744073709551616:=by
 obtain ⟨_,hh⟩:=at10 hi_ok Fk h0 h1;rw [hiOk,Bool.and_eq_true,decide_eq_true_eq,decide_eq_true_eq] at hh;exact hh
set_option maxRecDepth 100000 in
set_option maxHeartbeats 1600000 in
theorem prescale_any {w:World} {b:Nat} {e p l:Int} {c0 c1 c2:Value} (hb:Blk w b) (h0:w.cell? ⟨b,0,none⟩=some c0) (h1:w.cell? ⟨b,1,none⟩=some c1) (h2:w.cell? ⟨b,2,none⟩=some c2) (hP:Pows w)
   (hbg:b≠8) (p0:-348<=p) (p1:p<=347) (e0:-3000<=e) (e1:e<=3000) (l0:-3000<=l) (l1:l<=3000) :
   Calls Tryz.prog 172 #[.pointer (some ⟨b,0,none⟩),.int .i64 e,.int .i64 p,.int .i64 l] w fun x w' => x=.returned (.tuple #[]) /\
     w' = ((w.setCell ⟨b,0,none⟩ (.int .u64 (hiT p:Int))).setCell ⟨b,1,none⟩ (.int .u64 (loT p:Int))).setCell ⟨b,2,none⟩ (.int .i64 (-(e+l+3))):=by
 obtain ⟨t0,t1⟩:=hP p p0 p1
 have g0:=(hi_lt p0 p1).2
 have g1:=lo_lt p
 generalize hiT p=H at *
 generalize loT p=L at *
 obtain ⟨q,hq⟩:∃q:Nat,q=(p+348).toNat:=⟨_,rfl⟩
 rw [<-hq] at t0 t1
 have hqe:p+348=(q:Int):=by omega
 have hq6:q<696:=by omega
 have z0:=hb.frz 0 none
 have z1:=hb.frz 1 none
 have z2:=hb.frz 2 none
 have hbg' : ¬(8=b):=fun h=>hbg h.symm
 clear hP hb hq
 go_enter Tryz.func172,Tryz.ntmps172
 go_wp2
 go_end0
 exact ⟨rfl,rfl⟩
end Go.Proofs.YtagkgfniihiinaaGreatDoor
