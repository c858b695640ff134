/- What a kind has; a value's bits; what a value has that its kind has not. -/
import Derived.Test.YtfaihaoajdcjbaaGreatDoorJ28
set_option linter.all false
namespace Go.Proofs.YtfaihaoajdcjbaaGreatDoor
open Go.RowKit
def Bi (k:Int):Bool:=decide (k=1\/k=2\/k=4\/k=9\/k=10\/k=11)
def numK (k:Int):Bool:=decide (k=3)
def Bl (k:Int):Bool:=decide (k=7)
def Bk (k:Int):Bool:=decide (k=8)
def As (k:Int):Bool:=decide (k=5\/k=12\/k=13\/k=14)
def Dz (k:Int):Bool:=decide (1<=k/\k<=14)
set_option maxHeartbeats 1600000 in
theorem Cx (k:Int) (w:World):Calls Tryz.prog 138 #[.int .i64 k] w fun e w' =>
   e=.returned (.tuple #[.agg #[.bool (Bi k),.bool (numK k),.bool (Bl k),.bool (Bk k),.bool (As k)],.bool (Dz k)])/\Below w.heap.size w w' := by
 rcases (by omega:k=1\/k=2\/k=3\/k=4\/k=5\/k=6\/k=7\/k=8\/k=9\/k=10\/k=11\/k=12\/k=13\/k=14\/(k<1\/14<k)) with rfl | rfl | rfl | rfl | rfl | rfl | rfl | rfl | rfl | rfl | rfl | rfl | rfl | rfl | h
 all_goals
   have e1:=Hd (Below.alloc (Below.refl w.heap.size w) (Nat.le_refl _))
 iterate 14
   · go_enter Tryz.func138,Tryz.ntmps138
     go_wp2;exact bodyPost_ret (v:=.tuple #[.agg #[.bool (Bi _),.bool (numK _),.bool (Bl _),.bool (Bk _),.bool (As _)],.bool (Dz _)]) (by simp [results,Tryz.results138,go_sem,Bi,numK,Bl,Bk,As,Dz]) rfl ⟨rfl,e1.out _⟩
 · have h1:(k == 1)=false:=by simp;omega
   have h2:(k == 2)=false:=by simp;omega
   have h3:(k == 3)=false:=by simp;omega
   have h4:(k == 4)=false:=by simp;omega
   have h5:(k == 5)=false:=by simp;omega
   have h6:(k == 6)=false:=by simp;omega
   have h7:(k == 7)=false:=by simp;omega
   have h8:(k == 8)=false:=by simp;omega
   have h9:(k == 9)=false:=by simp;omega
   have h10:(k == 10)=false:=by simp;omega
   have h11:(k == 11)=false:=by simp;omega
   have h12:(k == 12)=false:=by simp;omega
   have h13:(k == 13)=false:=by simp;omega
   have h14:(k == 14)=false:=by simp;omega
   have q1:Bi k=false:=by simp [Bi];omega
   have q2:numK k=false:=by simp [numK];omega
   have q3:Bl k=false:=by simp [Bl];omega
   have q4:Bk k=false:=by simp [Bk];omega
   have q5:As k=false:=by simp [As];omega
   have q6:Dz k=false:=by simp [Dz];omega
   rw [q1,q2,q3,q4,q5,q6];clear q1 q2 q3 q4 q5 q6 h
   go_enter Tryz.func138,Tryz.ntmps138
   go_wp2;exact bodyPost_ret (v:=.tuple #[.agg #[.bool false,.bool false,.bool false,.bool false,.bool false],.bool false]) (by simp [results,Tryz.results138,go_sem]) rfl ⟨rfl,e1.out _⟩
theorem realBits_any (r:Nat) (w:World):Calls Tryz.prog 152 #[.float .f64 r] w fun e w' => e=.returned (.int .u64 (bitsN r))/\w' = w:=by
 have hf:=f64bits_run r;have isn:Calls Tryz.prog 164 #[.float .f64 r] w fun e w' => e=.returned (.bool (FloatKind.f64.format.order r r != some .eq))/\w' = w:=by
   clear hf
   go_enter Tryz.func164,Tryz.ntmps164
   go_wp2;go_ret;exact ⟨rfl,rfl⟩
 by_cases hn:nanB r=true
 · have e1:(FloatKind.f64.format.order r r != some .eq)=true:=hn
   have e2:bitsN r=9221120237041090561:=by simp [bitsN,hn]
   rw [e2];rw [e1] at isn;clear hn e2 e1
   go_enter Tryz.func152,Tryz.ntmps152
   go_wp2_with fail
   refine isn.mono ?_;rintro e w' ⟨rfl,rfl⟩;go_wp2;go_ret;exact ⟨rfl,rfl⟩
 · have e1:(FloatKind.f64.format.order r r != some .eq)=false:=by simpa [nanB] using hn
   have e2:bitsN r=r:=by simp [bitsN,hn]
   rw [e2];rw [e1] at isn;clear hn e2 e1
   go_enter Tryz.func152,Tryz.ntmps152
   go_wp2_with fail
   refine isn.mono ?_;rintro e w' ⟨rfl,rfl⟩;go_wp2;go_ret;exact ⟨rfl,rfl⟩
theorem classK (k:Int):(Bi k,numK k,Bl k,Bk k,As k)=(true,false,false,false,false)\/(Bi k,numK k,Bl k,Bk k,As k)=(false,true,false,false,false)\/(Bi k,numK k,Bl k,Bk k,As k)=(false,false,true,false,false) \/
   (Bi k,numK k,Bl k,Bk k,As k)=(false,false,false,true,false)\/(Bi k,numK k,Bl k,Bk k,As k)=(false,false,false,false,true)\/(Bi k,numK k,Bl k,Bk k,As k)=(false,false,false,false,false):=by
 simp only [Prod.mk.injEq,Bi,numK,Bl,Bk,As,decide_eq_true_eq,decide_eq_false_iff_not];omega
def emptyS (s:ByteArray):Bool:=s.toList.isEmpty
def Fg (t n r f l:Bool) (v:V):Bool:=(t || emptyS v.text) && (n || decide (v.int=0)) && (r || decide (bitsN v.real=0)) && (f || !v.flag) && (l || decide (v.list.length=0))
def Df (v:V):Bool:=Fg (Bi v.kind) (numK v.kind) (Bl v.kind) (Bk v.kind) (As v.kind) v
set_option maxHeartbeats 3200000 in
theorem Bm (v:V) (a:Option Addr) (cap:Nat) (w:World) :
   Calls Tryz.prog 139 #[.agg #[.int .i64 v.kind,.string v.text,.int .i64 v.int,.float .f64 v.real,.bool v.flag,.slice a v.list.length cap],.agg #[.bool (Bi v.kind),.bool (numK v.kind),.bool (Bl v.kind),.bool (Bk v.kind),.bool (As v.kind)]] w fun e w' =>
     e=.returned (.bool (Df v))/\Below w.heap.size w w' := by
 have hb:=Hd (fun (o p:Obj)=>((Below.refl w.heap.size w).alloc (Nat.le_refl _) o).alloc (by simp) p);have hrb:=fun (W:World)=>realBits_any v.real W;unfold Df;generalize hn:v.list.length=n;replace hn:=Hd hn;rcases classK v.kind with h | h | h | h | h | h
 all_goals
   simp only [Prod.mk.injEq] at h
   obtain ⟨h1,h2,h3,h4,h5⟩:=h
   rw [h1,h2,h3,h4,h5]
   clear h1 h2 h3 h4 h5
 all_goals
   go_enter Tryz.func139,Tryz.ntmps139
   go_wp2_with (go_at_call 152;refine (hrb _).mono ?_;rintro e w' ⟨rfl,rfl⟩)
   all_goals
     go_ret
     refine ⟨congrArg (fun b=>Ending.returned (.bool b)) ?_,hb.out _ _⟩
     simp [Fg,emptyS,hn.out, *]
     try (by_cases hz:n=0<;>simp [hz])
end Go.Proofs.YtfaihaoajdcjbaaGreatDoor
