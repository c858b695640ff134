/- Values: how the document's functions go through them, and how they are copied. -/
import Derived.Test.YtagkgfniihiinaaGreatDoorProg
import Derived.Test.YtagkgfniihiinaaGreatDoorJ52
import Derived.Deep.LoopGhost
import Derived.Deep.QuietTactic
import Derived.BigQuiet
import Derived.Deep.DeepCutAuto
import Derived.Deep.RegionHeld3
import Derived.Deep.CutBlock
set_option linter.all false
namespace Go.Proofs.YtagkgfniihiinaaGreatDoor
open Go.RowKit
theorem eVal:Elem Tryz.prog 24 26 6 72:=elem_of Tryz.underlying24 (by decide) (by decide) (by kernel_rfl)
theorem Ai:(Tryz.prog.info? 26).map (·.size)=some 6:=by kernel_rfl
theorem one6 (k:Int) (t:ByteArray) (i:Int) (r:Nat) (f:Bool) (a:Option Addr) (n cap:Nat):(#[Value.int .i64 k,.string t,.int .i64 i,.float .f64 r,.bool f,.slice a n cap]:Array Value).all (·.oneCell')=true:=by
 simp [Value.oneCell']
theorem f64bits_run (r:Nat) (w:World):(callFunc 55 #[.float .f64 r]).run Tryz.prog w=.ok (.value (.int .u64 r)) w:=by kernel_rfl
theorem Cm (r:Nat) (w:World):Calls Tryz.prog 39 #[.float .f64 r] w fun e w' => e=.returned (.int .u64 (A5 r))/\w' = w:=by
 have hf:=f64bits_run r;by_cases hn:nanB r=true
 · have e1:(FloatKind.f64.format.order r r != some .eq)=true:=hn
   have e2:A5 r=9221120237041090561:=by simp [A5,hn]
   rw [e2];clear hn e2
   go_enter Tryz.func39,Tryz.ntmps39
   go_wp2;go_ret;exact ⟨rfl,rfl⟩
 · have e1:(FloatKind.f64.format.order r r != some .eq)=false:=by simpa [nanB] using hn
   have e2:A5 r=r:=by simp [A5,hn]
   rw [e2];clear hn e2
   go_enter Tryz.func39,Tryz.ntmps39
   go_wp2;go_ret;exact ⟨rfl,rfl⟩
def Bk (k:Int):Bool:=decide (k=1\/k=2\/k=4\/k=9\/k=10\/k=11)
def numK (k:Int):Bool:=decide (k=3)
def Bq (k:Int):Bool:=decide (k=7)
def Bt (k:Int):Bool:=decide (k=8)
def Ak (k:Int):Bool:=decide (k=5\/k=12\/k=13\/k=14)
def Ce (k:Int):Bool:=decide (1<=k/\k<=14)
set_option maxHeartbeats 1600000 in
theorem Fi (k:Int) (w:World):Calls Tryz.prog 105 #[.int .i64 k] w fun e w' =>
   e=.returned (.tuple #[.agg #[.bool (Bk k),.bool (numK k),.bool (Bq k),.bool (Bt k),.bool (Ak k)],.bool (Ce k)])/\Below w.heap.size w w' := by
 rcases (by omega:k=1\/k=2\/k=3\/k=4\/k=5\/k=6\/k=7\/k=8\/k=9\/k=10\/k=11\/k=12\/k=13\/k=14\/(k<1\/14<k)) with rfl | rfl | rfl | rfl | rfl | rfl | rfl | rfl | rfl | rfl | rfl | rfl | rfl | rfl | h
 all_goals
   have e1:=Below.alloc (Below.refl w.heap.size w) (Nat.le_refl _)
   replace e1:=Hd e1
 iterate 14
   · go_enter Tryz.func105,Tryz.ntmps105
     go_wp2;exact bodyPost_ret (v:=.tuple #[.agg #[.bool (Bk _),.bool (numK _),.bool (Bq _),.bool (Bt _),.bool (Ak _)],.bool (Ce _)]) (by simp [results,Tryz.results105,go_sem,Bk,numK,Bq,Bt,Ak,Ce]) rfl ⟨rfl,e1.out _⟩
 · have h1:(k == 1)=false:=by simp;omega
   have h2:(k == 2)=false:=by simp;omega
   have h3:(k == 3)=false:=by simp;omega
   have h4:(k == 4)=false:=by simp;omega
   have h5:(k == 5)=false:=by simp;omega
   have h6:(k == 6)=false:=by simp;omega
   have h7:(k == 7)=false:=by simp;omega
   have h8:(k == 8)=false:=by simp;omega
   have h9:(k == 9)=false:=by simp;omega
   have h10:(k == 10)=false:=by simp;omega
   have h11:(k == 11)=false:=by simp;omega
   have h12:(k == 12)=false:=by simp;omega
   have h13:(k == 13)=false:=by simp;omega
   have h14:(k == 14)=false:=by simp;omega
   have q1:Bk k=false:=by simp [Bk];omega
   have q2:numK k=false:=by simp [numK];omega
   have q3:Bq k=false:=by simp [Bq];omega
   have q4:Bt k=false:=by simp [Bt];omega
   have q5:Ak k=false:=by simp [Ak];omega
   have q6:Ce k=false:=by simp [Ce];omega
   rw [q1,q2,q3,q4,q5,q6];clear q1 q2 q3 q4 q5 q6 h
   go_enter Tryz.func105,Tryz.ntmps105
   go_wp2;exact bodyPost_ret (v:=.tuple #[.agg #[.bool false,.bool false,.bool false,.bool false,.bool false],.bool false]) (by simp [results,Tryz.results105,go_sem]) rfl ⟨rfl,e1.out _⟩
theorem realBits_any (r:Nat) (w:World):Calls Tryz.prog 130 #[.float .f64 r] w fun e w' => e=.returned (.int .u64 (A5 r))/\w' = w:=by
 have hf:=f64bits_run r;have isn:Calls Tryz.prog 76 #[.float .f64 r] w fun e w' => e=.returned (.bool (FloatKind.f64.format.order r r != some .eq))/\w' = w:=by
   clear hf
   go_enter Tryz.func76,Tryz.ntmps76
   go_wp2;go_ret;exact ⟨rfl,rfl⟩
 by_cases hn:nanB r=true
 · have e1:(FloatKind.f64.format.order r r != some .eq)=true:=hn
   have e2:A5 r=9221120237041090561:=by simp [A5,hn]
   rw [e2];rw [e1] at isn;clear hn e2 e1
   go_enter Tryz.func130,Tryz.ntmps130
   go_wp2_with fail
   refine isn.mono ?_;rintro e w' ⟨rfl,rfl⟩;go_wp2;go_ret;exact ⟨rfl,rfl⟩
 · have e1:(FloatKind.f64.format.order r r != some .eq)=false:=by simpa [nanB] using hn
   have e2:A5 r=r:=by simp [A5,hn]
   rw [e2];rw [e1] at isn;clear hn e2 e1
   go_enter Tryz.func130,Tryz.ntmps130
   go_wp2_with fail
   refine isn.mono ?_;rintro e w' ⟨rfl,rfl⟩;go_wp2;go_ret;exact ⟨rfl,rfl⟩
theorem classK (k:Int):(Bk k,numK k,Bq k,Bt k,Ak k)=(true,false,false,false,false)\/(Bk k,numK k,Bq k,Bt k,Ak k)=(false,true,false,false,false)\/(Bk k,numK k,Bq k,Bt k,Ak k)=(false,false,true,false,false) \/
   (Bk k,numK k,Bq k,Bt k,Ak k)=(false,false,false,true,false)\/(Bk k,numK k,Bq k,Bt k,Ak k)=(false,false,false,false,true)\/(Bk k,numK k,Bq k,Bt k,Ak k)=(false,false,false,false,false):=by
 simp only [Prod.mk.injEq,Bk,numK,Bq,Bt,Ak,decide_eq_true_eq,decide_eq_false_iff_not]
 omega
def D8 (s:ByteArray):Bool:=s.toList.isEmpty
def Bg (t n r f l:Bool) (v:V):Bool:=(t || D8 v.text) && (n || decide (v.int=0)) && (r || decide (A5 v.real=0)) && (f || !v.flag) && (l || decide (v.list.length=0))
def Bw (v:V):Bool:=Bg (Bk v.kind) (numK v.kind) (Bq v.kind) (Bt v.kind) (Ak v.kind) v
set_option maxHeartbeats 3200000 in
theorem Dc (v:V) (a:Option Addr) (cap:Nat) (w:World) :
   Calls Tryz.prog 106 #[.agg #[.int .i64 v.kind,.string v.text,.int .i64 v.int,.float .f64 v.real,.bool v.flag,.slice a v.list.length cap],.agg #[.bool (Bk v.kind),.bool (numK v.kind),.bool (Bq v.kind),.bool (Bt v.kind),.bool (Ak v.kind)]] w fun e w' =>
     e=.returned (.bool (Bw v))/\Below w.heap.size w w' := by
 have hb:=fun (o p:Obj)=>((Below.refl w.heap.size w).alloc (Nat.le_refl _) o).alloc (by simp) p
 have hrb:=fun (W:World)=>realBits_any v.real W
 replace hb:=Hd hb
 unfold Bw
 generalize hn:v.list.length=n
 replace hn:=Hd hn
 rcases classK v.kind with h | h | h | h | h | h
 all_goals
   simp only [Prod.mk.injEq] at h
   obtain ⟨h1,h2,h3,h4,h5⟩:=h
   rw [h1,h2,h3,h4,h5]
   clear h1 h2 h3 h4 h5
 all_goals
   go_enter Tryz.func106,Tryz.ntmps106
   go_wp2_with (go_at_call 130;refine (hrb _).mono ?_;rintro e w' ⟨rfl,rfl⟩)
   all_goals
     go_ret
     refine ⟨congrArg (fun b=>Ending.returned (.bool b)) ?_,hb.out _ _⟩
     simp [Bg,D8,hn.out, *]
     try (by_cases hz:n=0<;>simp [hz])
end Go.Proofs.YtagkgfniihiinaaGreatDoor
