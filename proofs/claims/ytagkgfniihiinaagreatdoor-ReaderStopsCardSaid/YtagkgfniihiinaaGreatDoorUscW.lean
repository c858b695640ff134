/- internal/strconv.uscale: its walk. -/
import Derived.Test.YtagkgfniihiinaaGreatDoorJ37
import Derived.Test.YtagkgfniihiinaaGreatDoorJ23
import Derived.Test.YtagkgfniihiinaaGreatDoorShelf
set_option linter.all false
namespace Go.Proofs.YtagkgfniihiinaaGreatDoor
open Go.RowKit
theorem Cj (b:Bool) (w:World):Calls Tryz.prog 210 #[.bool b] w fun e w' => e=.returned (.int .u64 (b.toNat:Int))/\w' = w:=by
 cases b
 ·go_enter Tryz.func210,Tryz.ntmps210
  go_wp2;go_ret;exact ⟨rfl,rfl⟩
 ·go_enter Tryz.func210,Tryz.ntmps210
  go_wp2;go_ret;exact ⟨rfl,rfl⟩
theorem bool264_grow (b:Bool) (w:World):Calls Tryz.prog 210 #[.bool b] w fun e w' => e=.returned (.int .u64 (b.toNat:Int))/\Below w.heap.size w w' :=
 (Cj b w).mono fun e w' ⟨h1,h2⟩=>⟨h1,by rw [h2];exact Below.refl _ _⟩
set_option maxRecDepth 100000 in
set_option maxHeartbeats 3200000 in
theorem uscaleW_any {w:World} {b x hi lo s:Nat} (hx:x<18446744073709551616) (hhi:hi<18446744073709551616) (hlo:lo<18446744073709551616) (hs:s<64) (hH:1<=x * hi / 18446744073709551616)
  (c0:w.cell? ⟨b,0,none⟩=some (.int .u64 (hi:Int))) (c1:w.cell? ⟨b,1,none⟩=some (.int .u64 (lo:Int))) (c2:w.cell? ⟨b,2,none⟩=some (.int .i64 (s:Int))) :
  Calls Tryz.prog 174 #[.int .u64 (x:Int),.pointer (some ⟨b,0,none⟩)] w fun e w' => e=.returned (.int .u64 ((Co 18446744073709551616 x hi lo s:Nat):Int))/\Below w.heap.size w w' := by
 have c:=Tryz.bits_Mul64 x hi hx hhi w;have f:=Tryz.bits_Mul64 x lo hx hlo w;have hl1:x * hi / 18446744073709551616<18446744073709551616:=by
  have:x * hi<=18446744073709551615 * 18446744073709551615:=Nat.mul_le_mul (by omega) (by omega);omega
 have hl2:x * lo / 18446744073709551616<18446744073709551616:=by
  have:x * lo<=18446744073709551615 * 18446744073709551615:=Nat.mul_le_mul (by omega) (by omega);omega
 have hl3:x * hi % 18446744073709551616<18446744073709551616:=Nat.mod_lt _ (by decide);have hl4:x * lo % 18446744073709551616<18446744073709551616:=Nat.mod_lt _ (by decide);have hand:bits .and .i64 (s:Int) 63=(s:Int):=by
  have:=D6 (x:=s) (y:=63) (by omega) (by omega);rw [and_63,Nat.mod_eq_of_lt hs] at this;exact this
 have hU:Co 18446744073709551616 x hi lo s=Co 18446744073709551616 x hi lo s:=rfl
 conv at hU=>rhs;unfold Co
 generalize Co 18446744073709551616 x hi lo s=U at *;generalize x * hi / 18446744073709551616=H at *;generalize x * hi % 18446744073709551616=M at *;generalize x * lo / 18446744073709551616=N at *;generalize x * lo % 18446744073709551616=M2 at *;have hG:=Nat.two_pow_pos s;have j:=Nat.div_add_mod H (2 ^ s);have h:H / 2 ^ s * 2 ^ s=H - H % 2 ^ s:=by rw [Nat.mul_comm];omega
 have hQi:((H:Int)) / 2 ^ s=((H / 2 ^ s:Nat):Int):=by simp
 have hQl:H / 2 ^ s<=H:=Nat.div_le_self _ _;have k:((H / 2 ^ s:Nat):Int) * 2 ^ s=((H - H % 2 ^ s:Nat):Int):=by rw [<-h];simp
 have hr:=Nat.mod_le H (2 ^ s);generalize H % 2 ^ s=r at *;obtain ⟨QS,hQSe⟩:∃QS,QS=H - r:=⟨_,rfl⟩;rw [<-hQSe] at k;generalize hQ:H / 2 ^ s=Q at *;clear h j;by_cases h0:r≠0
 ·rw [if_pos h0] at hU
  have l:((QS:Int) != (H:Int))=true:=by simp;omega
  have a:bits .or .u64 (Q:Int) 1=((Ch Q true:Nat):Int):=by
   have:=Bj (x:=Q) (y:=1) (by omega) (by omega);rw [or_one] at this;exact this
  have i:QS<18446744073709551616:=by omega
  rw [hU];clear hU f hQSe hQ;generalize Ch Q true=Z at *;replace c:=Lib.hid c
  go_enter Tryz.func174,Tryz.ntmps174
  go_wp2_with fail
  refine c.out.mono ?_;rintro e w1 ⟨rfl,rfl⟩;go_wp2;go_ret;exact ⟨rfl,Below.refl _ _⟩
 ·rw [if_neg h0] at hU
  have h0' : r=0:=by omega
  have l:((QS:Int) != (H:Int))=false:=by simp;omega
  have i:QS<18446744073709551616:=by omega
  by_cases hmn:M<N
  ·rw [if_pos hmn] at hU
   have m:((M:Int)<(N:Int)):=by omega
   obtain ⟨H1,hH1⟩:∃H1,H1=H - 1:=⟨_,rfl⟩;rw [<-hH1] at hU;have hsub:(H:Int) - 1=(H1:Int):=by omega
   have hQ2:((H1:Int)) / 2 ^ s=((H1 / 2 ^ s:Nat):Int):=by simp
   have hQ2l:H1 / 2 ^ s<=H1:=Nat.div_le_self _ _;generalize H1 / 2 ^ s=Q2 at *;have a:=Bj (x:=Q2) (y:=(decide (1<M+18446744073709551616 - N)).toNat) (by omega) (by cases decide (1<M+18446744073709551616 - N)<;>decide);rw [or_stick] at a;have d:decide ((1:Int)<((M+18446744073709551616 - N:Nat):Int))=decide (1<M+18446744073709551616 - N):=by rw [Bool.eq_iff_iff,decide_eq_true_iff,decide_eq_true_iff];omega
   rw [<-d] at a;rw [d] at a;rw [<-hU] at a;rw [<-d] at a;have g:IntKind.u64.wrap ((M:Int) - (N:Int))=((M+18446744073709551616 - N:Nat):Int):=by
    simp [IntKind.wrap,IntKind.bits,IntKind.signed];omega
   clear hU hQSe hQ hH1 d;replace a:=Lib.hid a;replace g:=Lib.hid g;replace c:=Lib.hid c;replace f:=Lib.hid f
   go_enter Tryz.func174,Tryz.ntmps174
   go_wp2_with fail
   refine c.out.mono ?_;rintro e w1 ⟨rfl,rfl⟩;go_wp2_with fail
   refine f.out.mono ?_;rintro e w2 ⟨rfl,rfl⟩;go_wp2_with fail
   refine (Cj true _).mono ?_;rintro e w3 ⟨rfl,rfl⟩;go_wp2_with fail
   refine Ae (by kernel_rfl) (by kernel_rfl) ?_;repeat (go_big_quiet_step ((go_at_call 210;(with_reducible exact Bl (bool264_grow _ _)))))
   refine wpQuiet_nil ?_;rintro _ ⟨xq,rfl⟩;have hS:=Ah w3 xq;go_wp2_with fail
   go_ret;refine ⟨?_,hS⟩;show Ending.returned (.int .u64 (bits .or .u64 (Q2:Int) ((decide (1<IntKind.u64.wrap ((M:Int) - (N:Int)))).toNat:Int)))=_;rw [g.out,a.out]
  ·rw [if_neg hmn] at hU
   have m:¬((M:Int)<(N:Int)):=by omega
   obtain ⟨D,hD⟩:∃D,D=M - N:=⟨_,rfl⟩;rw [<-hD] at hU;have hw:(M:Int) - (N:Int)=(D:Int):=by omega
   have a:=Bj (x:=Q) (y:=(decide (1<D)).toNat) (by omega) (by cases decide (1<D)<;>decide);rw [or_stick] at a;have d:decide ((1:Int)<(D:Int))=decide (1<D):=by rw [Bool.eq_iff_iff,decide_eq_true_iff,decide_eq_true_iff];omega
   have hD9:D<18446744073709551616:=by omega
   rw [hU];clear hU hQSe hQ hD;generalize Ch Q (decide (1<D))=Z at *;generalize decide (1<D)=dd at *;replace c:=Lib.hid c;replace f:=Lib.hid f
   go_enter Tryz.func174,Tryz.ntmps174
   go_wp2_with fail
   refine c.out.mono ?_;rintro e w1 ⟨rfl,rfl⟩;go_wp2_with fail
   refine f.out.mono ?_;rintro e w2 ⟨rfl,rfl⟩;go_wp2_with fail
   refine (Cj false _).mono ?_;rintro e w3 ⟨rfl,rfl⟩;go_wp2_with fail
   refine Ae (by kernel_rfl) (by kernel_rfl) ?_;repeat (go_big_quiet_step ((go_at_call 210;(with_reducible exact Bl (bool264_grow dd _)))))
   refine wpQuiet_nil ?_;rintro _ ⟨xq,rfl⟩;have hS:=Ah w3 xq;go_wp2_with fail
   go_ret;exact ⟨rfl,hS⟩
