/- nearhandref02's Bits, Add, Order; real.Add at every two numbers; RealSums. -/
import Derived.Test.YteoalcmhdoopnaaGreatDoorJ37
namespace Go.Proofs.YteoalcmhdoopnaaGreatDoor
open Go.RowKit
theorem Dr {r:Nat} (h:r<18446744073709551616) (w:World):Calls Tryz.prog 16 #[.float .f64 r] w fun e w' => e=.returned (.int .u64 (B3 r:Int))/\w' = w:=by
 have hf:=mbits_run r;have hn:=nan_ne h;cases hnan:nanF r with
 | true=>
   have hc:B3 r=nanC:=(Dz r).2 hnan;rw [hnan] at hn;rw [hc];clear hnan hc
   go_enter Tryz.func16,Tryz.ntmps16
   go_wp2;go_ret;exact ⟨rfl,rfl⟩
 | false=>
   have hc:B3 r=r:=by unfold B3;rw [hnan];rfl
   rw [hnan] at hn;rw [hc];clear hnan hc
   go_enter Tryz.func16,Tryz.ntmps16
   go_wp2;go_ret;exact ⟨rfl,rfl⟩
theorem add_run (a b:Nat) (w:World):∃r w1,(binOp .add 28 (.float .f64 a) (.float .f64 b)).run Tryz.prog w=.ok (.float .f64 r) w1/\r<18446744073709551616/\Below w.heap.size w w1/\(floatBits .add .f64 a b=some r\/(floatBits .add .f64 a b=none/\nanF r=true)):=by
 cases h:floatBits .add .f64 a b with
 | some r=>
   refine ⟨r,w,run_float_arith w .add 28 .f64 a b r h,?_,Below.refl _ _,.inl rfl⟩;have:=floatBits_wf h;simpa [Lit.wf] using this
 | none=>
   obtain ⟨t,ht⟩:∃t,t=w.tape w.drawn (.nanBits .f64 a b):=⟨_,rfl⟩;obtain ⟨r,hr⟩:∃r:Nat,r=(t % 2) * 2 ^ 63+0x7ff0000000000000+1+(t / 2) % (2 ^ 52 - 1):=⟨_,rfl⟩;have hcut:(Question.nanBits .f64 a b).cut (w.tape w.drawn (.nanBits .f64 a b))=r:=by rw [<-ht,hr];rfl
   have hq:t % 2<=1:=by omega
   have hm:(t / 2) % (2 ^ 52 - 1)<4503599627370495:=Nat.mod_lt _ (by decide);have hr2:r=(t % 2) * 9223372036854775808+9218868437227405312+1+(t / 2) % (2 ^ 52 - 1):=hr;generalize t % 2=q at *;generalize (t / 2) % (2 ^ 52 - 1)=m at *;clear hr ht;refine ⟨r,w.drew,?_,by omega,Below.drew (Below.refl _ _),.inr ⟨rfl,?_⟩⟩
   · have h' : FloatKind.f64.format.add a b=none:=h
     simp [binOp,Op.floatArith,h', Question.forced,hcut]
   · unfold nanF
     rw [decide_eq_true_iff];omega
def badF (r:Nat):Bool:=nanF r || decide (r % 9223372036854775808=9218868437227405312)
theorem canon_inf {r:Nat} (h:r<18446744073709551616) (hn:nanF r=false):B3 r=r:=by unfold B3;rw [hn];rfl
theorem add_any {a b r:Nat} {w w1:World} (hrun:(binOp .add 28 (.float .f64 a) (.float .f64 b)).run Tryz.prog w=.ok (.float .f64 r) w1) (hr:r<18446744073709551616) :
   Calls Tryz.prog 32 #[.float .f64 a,.float .f64 b] w fun e w' => e=.returned (.tuple #[.float .f64 (if badF r then 0 else r),.int .i64 (if badF r then 21 else 0)])/\w' = w1:=by
 have h1:=isNaN_any hr
 cases hn:nanF r with
 | true=>
   have hb:badF r=true:=by unfold badF;rw [hn];rfl
   rw [hn] at h1;rw [hb,if_pos rfl,if_pos rfl];clear hb hn;replace h1:=Hd h1
   go_enter Tryz.func32,Tryz.ntmps32
   go_wp2_with fail
   refine (h1.out _).mono ?_;rintro e w' ⟨rfl,rfl⟩;go_wp2
   go_ret2
   exact ⟨rfl,rfl⟩
 | false=>
   have h2:=isInf_any hr hn;rw [hn] at h1;by_cases hi:r % 9223372036854775808=9218868437227405312
   · have hb:badF r=true:=by unfold badF;rw [decide_eq_true hi];simp
     rw [decide_eq_true hi] at h2;rw [hb,if_pos rfl,if_pos rfl];clear hb hn hi;replace h1:=Hd h1;replace h2:=Hd h2
     go_enter Tryz.func32,Tryz.ntmps32
     go_wp2_with fail
     refine (h1.out _).mono ?_;rintro e w' ⟨rfl,rfl⟩;go_wp2_with fail
     refine (h2.out _).mono ?_;rintro e w' ⟨rfl,rfl⟩;go_wp2
     go_ret2
     exact ⟨rfl,rfl⟩
   · have hb:badF r=false:=by unfold badF;rw [hn,decide_eq_false hi];rfl
     rw [decide_eq_false hi] at h2;rw [hb,if_neg (by decide),if_neg (by decide)];clear hb hn hi;replace h1:=Hd h1;replace h2:=Hd h2
     go_enter Tryz.func32,Tryz.ntmps32
     go_wp2_with fail
     refine (h1.out _).mono ?_;rintro e w' ⟨rfl,rfl⟩;go_wp2_with fail
     refine (h2.out _).mono ?_;rintro e w' ⟨rfl,rfl⟩;go_wp2
     go_ret2
     exact ⟨rfl,rfl⟩
theorem refAdd_any {a b r:Nat} {w w1:World} (hrun:(binOp .add 28 (.float .f64 a) (.float .f64 b)).run Tryz.prog w=.ok (.float .f64 r) w1) (hr:r<18446744073709551616) :
   Calls Tryz.prog 35 #[.float .f64 a,.float .f64 b] w fun e w' => e=.returned (.tuple #[.float .f64 (if badF r then 0 else r),.int .i64 (if badF r then 21 else 0)])/\w' = w1:=by
 have h1:=Dr hr
 obtain ⟨k,hk⟩:∃k,k=B3 r:=⟨_,rfl⟩
 rw [<-hk] at h1
 cases hn:nanF r with
 | true=>
   have hb:badF r=true:=by unfold badF;rw [hn];rfl
   have e1:((k:Int) == 9221120237041090561)=true:=by rw [hk,(Dz r).2 hn];rfl
   rw [hb,if_pos rfl,if_pos rfl];clear hb hn hk;replace h1:=Hd h1
   go_enter Tryz.func35,Tryz.ntmps35
   go_wp2_with fail
   refine (h1.out _).mono ?_;rintro e w' ⟨rfl,rfl⟩;go_wp2
   go_ret2
   exact ⟨rfl,rfl⟩
 | false=>
   rw [canon_inf hr hn] at hk;have e1:((k:Int) == 9221120237041090561)=false:=beq_eq_false_iff_ne.2 (fun e=>by unfold nanF at hn;have:=of_decide_eq_false hn;omega);by_cases hi1:r=9218868437227405312
   · have hb:badF r=true:=by unfold badF;rw [decide_eq_true (by omega)];simp
     have e2:((k:Int) == 9218868437227405312)=true:=by simp;omega
     rw [hb,if_pos rfl,if_pos rfl];clear hb hn hk hi1;replace h1:=Hd h1
     go_enter Tryz.func35,Tryz.ntmps35
     go_wp2_with fail
     refine (h1.out _).mono ?_;rintro e w' ⟨rfl,rfl⟩;go_wp2
     go_ret2
     exact ⟨rfl,rfl⟩
   · have e2:((k:Int) == 9218868437227405312)=false:=beq_eq_false_iff_ne.2 (by omega)
     by_cases hi2:r=18442240474082181120
     · have hb:badF r=true:=by unfold badF;rw [decide_eq_true (by omega)];simp
       have e3:((k:Int) == 18442240474082181120)=true:=by simp;omega
       rw [hb,if_pos rfl,if_pos rfl];clear hb hn hk hi1 hi2;replace h1:=Hd h1
       go_enter Tryz.func35,Tryz.ntmps35
       go_wp2_with fail
       refine (h1.out _).mono ?_;rintro e w' ⟨rfl,rfl⟩;go_wp2
       go_ret2
       exact ⟨rfl,rfl⟩
     · have e3:((k:Int) == 18442240474082181120)=false:=beq_eq_false_iff_ne.2 (by omega)
       have hb:badF r=false:=by unfold badF;rw [hn,decide_eq_false (by omega)];rfl
       rw [hb,if_neg (by decide),if_neg (by decide)];replace hk:=Hd hk;clear hb hn hi1 hi2;replace h1:=Hd h1
       go_enter Tryz.func35,Tryz.ntmps35
       go_wp2_with fail
       refine (h1.out _).mono ?_;rintro e w' ⟨rfl,rfl⟩;go_wp2
       go_ret2
       exact ⟨rfl,rfl⟩
end Go.Proofs.YteoalcmhdoopnaaGreatDoor
