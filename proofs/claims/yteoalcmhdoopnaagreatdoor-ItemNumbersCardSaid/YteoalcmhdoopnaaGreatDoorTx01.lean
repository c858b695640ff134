/- nearhandref01.Text: a number's digits. -/
import Derived.Test.YteoalcmhdoopnaaGreatDoorProg
import Derived.Test.YteoalcmhdoopnaaGreatDoorRIs
import Derived.Lib.ItoaNum
import Derived.Lib.ItoaLen
import Derived.Lib.SmallJoins
namespace Go.Proofs.YteoalcmhdoopnaaGreatDoor
open Go.RowKit
def decB (u:Nat):ByteArray:=⟨(Lib.decDigits u).toArray⟩
def Cp (n:Int):ByteArray:=⟨(Lib.itoa n).toArray⟩
theorem decB_step {u:Nat} (h:10<=u):decB u=decB (u / 10)++decB (u % 10):=by
 rw [decB,Lib.decDigits,dif_neg (by omega),decB,decB,Lib.decDigits_one (Nat.mod_lt _ (by decide))];apply ByteArray.ext;simp [ByteArray.data_append]
theorem itoaB_nat (u:Nat):Cp u=decB u:=by
 rw [Cp,Lib.itoa,if_neg (by omega),decB];rfl
theorem E6 {u:Nat} (h:0<u):Cp (-(u:Int))=(⟨#[45]⟩:ByteArray)++decB u:=by
 rw [Cp,Lib.itoa,if_pos (by omega),decB,show (-(u:Int)).natAbs=u by omega];apply ByteArray.ext;simp [ByteArray.data_append]
theorem Es (u:Nat) (h:u<=9223372036854775808):(decB u).size<=21:=by
 rcases Nat.eq_or_lt_of_le h with h | h
 · have:=Lib.itoa_length_le (-(u:Int)) (by omega) (by omega)
   rw [Lib.itoa,if_pos (by omega),show (-(u:Int)).natAbs=u by omega,List.length_cons] at this;show (Lib.decDigits u).toArray.size<=21;simp;omega
 · have:=Lib.itoa_length_le (u:Int) (by omega) (by omega)
   rw [Lib.itoa,if_neg (by omega)] at this;show (Lib.decDigits u).toArray.size<=21;simpa using this
theorem digit_ex (u:Nat) (h:u<10):(⟨#[48,49,50,51,52,53,54,55,56,57]⟩:ByteArray).extract u (u+1)=decB u:=by
 rw [decB,Lib.decDigits_one h];have key:∀u:Fin 10,(⟨#[48,49,50,51,52,53,54,55,56,57]⟩:ByteArray).extract u.val (u.val+1)=⟨#[UInt8.ofNat (48+u.val)]⟩:=by decide +kernel
 exact key ⟨u,h⟩
set_option maxRecDepth 100000 in
set_option maxHeartbeats 1600000 in
theorem Dd (u:Nat) (h:u<10) (w:World):Calls Tryz.prog 29 #[.int .i64 (u:Int)] w fun e w' => e=.returned (.string (decB u))/\Below w.heap.size w w' := by
 have h0:(0:Int)<=(u:Int):=by omega
 have h1:(u:Int)<10:=by omega
 have hx:=digit_ex u h;have h2:(u:Int)+1<=10:=by omega
 go_enter Tryz.func29,Tryz.ntmps29
 go_wp2;go_ret;exact ⟨by rw [<-hx];rfl,Below.refl _ _⟩
set_option maxRecDepth 100000 in
set_option maxHeartbeats 1600000 in
theorem text01_nat:∀(u:Nat),u<=9223372036854775807->∀w:World,Calls Tryz.prog 29 #[.int .i64 (u:Int)] w fun e w' => e=.returned (.string (decB u))/\Below w.heap.size w w' := by
 intro u;induction u using Nat.strongRecOn with
 | _ u ih=>
   intro hu w;by_cases h:u<10
   · exact Dd u h w
   · have h0:(0:Int)<=(u:Int):=by omega
     have h1:¬(u:Int)<10:=by omega
     have h2:(0:Int)<(u:Int):=by omega
     have hq:(u:Int).tdiv 10=((u / 10:Nat):Int):=by rw [Int.tdiv_eq_ediv_of_nonneg (by omega)];rfl
     have hr:(u:Int).tmod 10=((u % 10:Nat):Int):=by rw [Int.tmod_eq_emod_of_nonneg (by omega)];rfl
     have hs:=decB_step (u:=u) (by omega);have l1:=Es (u / 10) (by omega);have l2:=Es (u % 10) (by omega);have hi:=ih (u / 10) (by omega) (by omega);have hd:=Dd (u % 10) (Nat.mod_lt _ (by decide));obtain ⟨q,hqq⟩:∃q,q=u / 10:=⟨_,rfl⟩;obtain ⟨r,hrr⟩:∃r,r=u % 10:=⟨_,rfl⟩;rw [<-hqq] at hq hs l1 hi;rw [<-hrr] at hr hs l2 hd;have l3:¬9223372036854775807<(decB q).size+(decB r).size:=by omega
     have q3:(q:Int)<=9223372036854775807:=by omega
     have r3:(r:Int)<10:=by omega
     clear hqq hrr l1 l2 ih;replace hs:=Hd hs;replace hi:=Hd hi;replace hd:=Hd hd
     go_enter Tryz.func29,Tryz.ntmps29
     go_wp2_with fail
     refine (hi.out _).mono ?_;rintro e w1 ⟨rfl,hb1⟩;go_wp2_with fail
     refine (hd.out _).mono ?_;rintro e w2 ⟨rfl,hb2⟩;go_wp2;go_ret;exact ⟨by rw [hs.out];rfl,hb1.trans (hb2.mono hb1.size)⟩
set_option maxRecDepth 100000 in
set_option maxHeartbeats 1600000 in
theorem text01_negd (u:Nat) (h:u<10) (h9:0<u) (w:World):Calls Tryz.prog 29 #[.int .i64 (-(u:Int))] w fun e w' => e=.returned (.string (Cp (-(u:Int))))/\Below w.heap.size w w' := by
 have h0:¬(0:Int)<=(-(u:Int)):=by omega
 have h2:¬(0:Int)<(-(u:Int)):=by omega
 have h3:(-10:Int)<(-(u:Int)):=by omega
 have h4:- -(u:Int)=u:=by omega
 have hs:=E6 h9;have l1:=Es u (by omega);have l3:¬9223372036854775807<1+(decB u).size:=by omega
 have hd:=Dd u h;obtain ⟨n,hn⟩:∃n,n=(-(u:Int)):=⟨_,rfl⟩;have h5:-n=(u:Int):=by rw [hn,h4]
 rw [<-hn] at h0 h2 h3 hs ⊢;have k1:(u:Int)<=9223372036854775807:=by omega
 clear l1 h4 hn;replace hs:=Hd hs;replace hd:=Hd hd
 go_enter Tryz.func29,Tryz.ntmps29
 go_wp2_with fail
 refine (hd.out _).mono ?_;rintro e w2 ⟨rfl,hb2⟩;go_wp2;go_ret;exact ⟨by rw [hs.out];rfl,hb2⟩
set_option maxRecDepth 100000 in
set_option maxHeartbeats 1600000 in
theorem text01_neg:∀(u:Nat),0<u->u<=9223372036854775808->∀w:World,Calls Tryz.prog 29 #[.int .i64 (-(u:Int))] w fun e w' => e=.returned (.string (Cp (-(u:Int))))/\Below w.heap.size w w' := by
 intro u;induction u using Nat.strongRecOn with
 | _ u ih=>
   intro hp hu w;by_cases h:u<10
   · exact text01_negd u h hp w
   · have h0:¬(0:Int)<=(-(u:Int)):=by omega
     have h2:¬(0:Int)<(-(u:Int)):=by omega
     have h3:¬(-10:Int)<(-(u:Int)):=by omega
     have hq:(-(u:Int)).tdiv 10=-((u / 10:Nat):Int):=by rw [Int.neg_tdiv,Int.tdiv_eq_ediv_of_nonneg (by omega)];rfl
     have hr:(-(u:Int)).tmod 10=-((u % 10:Nat):Int):=by rw [Int.neg_tmod,Int.tmod_eq_emod_of_nonneg (by omega)];rfl
     have hs:Cp (-(u:Int))=Cp (-((u / 10:Nat):Int))++decB (u % 10):=by
       rw [E6 hp,E6 (by omega),decB_step (by omega)];apply ByteArray.ext;simp [ByteArray.data_append]
     have l1:(Cp (-((u / 10:Nat):Int))).size<=22:=by
       rw [E6 (by omega),ByteArray.size_append];have:=Es (u / 10) (by omega);have e:ByteArray.size ⟨#[45]⟩=1:=rfl;omega
     have l2:=Es (u % 10) (by omega);have hi:=ih (u / 10) (by omega) (by omega) (by omega);have hd:=Dd (u % 10) (Nat.mod_lt _ (by decide));obtain ⟨q,hqq⟩:∃q,q=u / 10:=⟨_,rfl⟩;obtain ⟨r,hrr⟩:∃r,r=u % 10:=⟨_,rfl⟩;rw [<-hqq] at hq hs l1 hi;rw [<-hrr] at hr hs l2 hd;have l3:¬9223372036854775807<(Cp (-(q:Int))).size+(decB r).size:=by omega
     have r3:(r:Int)<10:=by omega
     have q3:(q:Int)<=922337203685477581:=by omega
     obtain ⟨z,hz⟩:∃z,z=-(r:Int):=⟨_,rfl⟩;obtain ⟨y,hy⟩:∃z,z=-(q:Int):=⟨_,rfl⟩;obtain ⟨n,hn⟩:∃n,n=(-(u:Int)):=⟨_,rfl⟩;have h5:-z=(r:Int):=by omega
     have y3:-922337203685477581<=y:=by omega
     have y4:y<=0:=by omega
     have z3:-10<z:=by omega
     have z4:z<=0:=by omega
     rw [<-hn] at h0 h2 h3 hq hr hs ⊢;rw [<-hz] at hr;rw [<-hy] at hq hs l3 hi;clear hqq hrr l1 l2 ih hz hy hn;replace hs:=Hd hs;replace hi:=Hd hi;replace hd:=Hd hd
     go_enter Tryz.func29,Tryz.ntmps29
     go_wp2_with fail
     refine (hi.out _).mono ?_;rintro e w1 ⟨rfl,hb1⟩;go_wp2_with fail
     refine (hd.out _).mono ?_;rintro e w2 ⟨rfl,hb2⟩;go_wp2;go_ret;exact ⟨by rw [hs.out];rfl,hb1.trans (hb2.mono hb1.size)⟩
theorem Fv (n:Int) (h0:-9223372036854775808<=n) (h1:n<=9223372036854775807) (w:World):Calls Tryz.prog 29 #[.int .i64 n] w fun e w' => e=.returned (.string (Cp n))/\Below w.heap.size w w' := by
 rcases Int.lt_or_le n 0 with h | h
 · obtain ⟨u,rfl⟩:∃u:Nat,n=-(u:Int):=⟨n.natAbs,by omega⟩
   exact text01_neg u (by omega) (by omega) w
 · obtain ⟨u,rfl⟩:∃u:Nat,n=(u:Int):=⟨n.natAbs,by omega⟩
   rw [itoaB_nat];exact text01_nat u (by omega) w
end Go.Proofs.YteoalcmhdoopnaaGreatDoor
