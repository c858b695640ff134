/- A numeral's digits; the shortest digits' bounds (no program in sight). -/
import Derived.Test.YteoalcmhdoopnaaGreatDoorNumD
import Derived.Test.YteoalcmhdoopnaaGreatDoorShort
import Derived.Lib.ItoaNum
namespace Go.Proofs.YteoalcmhdoopnaaGreatDoor
theorem u8_toNat {n:Nat} (h:n<10):(UInt8.ofNat (48+n)).toNat=48+n:=by rw [UInt8.toNat_ofNat'];omega
theorem dec_isD (u:Nat):∀c∈Lib.decDigits u,isD c=true:=by
 induction u using Nat.strongRecOn with
 | _ u ih=>
   intro c hc;rw [Lib.decDigits] at hc;have key:∀n:Nat,n<10->isD (UInt8.ofNat (48+n))=true:=fun n h=>by unfold isD;rw [u8_toNat h];simp;omega
   by_cases h:u<10
   · rw [dif_pos h,List.mem_singleton] at hc
     rw [hc];exact key u h
   · rw [dif_neg h,List.mem_append,List.mem_singleton] at hc
     rcases hc with hc | hc
     · exact ih (u / 10) (by omega) c hc
     · rw [hc];exact key _ (Nat.mod_lt _ (by decide))
end Go.Proofs.YteoalcmhdoopnaaGreatDoor
