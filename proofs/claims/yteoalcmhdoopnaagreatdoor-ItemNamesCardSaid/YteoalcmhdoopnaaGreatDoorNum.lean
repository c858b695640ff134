/- The number that a text is: Go's own parsing, the numeral, and the document's digit by digit are one. No program in sight. -/
import Derived.Test.YteoalcmhdoopnaaGreatDoorBase
import Derived.Lib.ParseIntBTie
import Derived.Lib.ItoaNum
namespace Go.Proofs.YteoalcmhdoopnaaGreatDoor
open Go.RowKit Go
def wP (l:List UInt8):Option Int:=match Lib.atoiAll l with
 | .ok v=>if Lib.itoa v=l then some v else none
 | _=>none
def dig (c:UInt8):Prop:=48<=c.toNat/\c.toNat<=57
def step (a:Nat) (c:UInt8):Nat:=a * 10+(c.toNat - 48)
def valF (a:Nat) (l:List UInt8):Nat:=l.foldl step a
theorem Am (a:Nat) (c:UInt8) (l:List UInt8):valF a (c :: l)=valF (a * 10+(c.toNat - 48)) l:=by unfold valF;rw [List.foldl_cons];rfl
theorem Bi (a:Nat):valF a []=a:=rfl
theorem Ba:∀(l:List UInt8) (a:Nat) (m:List UInt8),valF a (l++m)=valF (valF a l) m
 | [],_,_=>rfl
 | c :: l,a,m=>by rw [List.cons_append,Am,Am];exact Ba l _ m
theorem valF_le:∀(l:List UInt8) (a:Nat),a * 10 ^ l.length<=valF a l
 | [],a=>by rw [Bi];simp
 | c :: l,a=>by
   have h:=valF_le l (a * 10+(c.toNat - 48));rw [Am,List.length_cons,Nat.pow_succ];refine Nat.le_trans ?_ h;rw [Nat.add_mul,Nat.mul_assoc,Nat.mul_comm 10];omega
theorem valF_ge (l:List UInt8) (a:Nat):a<=valF a l:=Nat.le_trans (Nat.le_mul_of_pos_right a (Nat.pow_pos (by decide))) (valF_le l a)
theorem Bg {k:Nat} (h:k<10):(UInt8.ofNat (48+k)).toNat=48+k:=UInt8.toNat_ofNat_of_lt' (by have:UInt8.size=256:=rfl;omega)
theorem dec_dig:∀(u:Nat),∀c∈Lib.decDigits u,dig c:=by
 intro u;induction u using Nat.strongRecOn with
 | _ u ih=>
   intro c hc;rw [Lib.decDigits] at hc;split at hc
   · rename_i h
     simp only [List.mem_singleton] at hc;subst hc;unfold dig;rw [Bg h];omega
   · rename_i h
     rcases List.mem_append.1 hc with hc | hc
     · exact ih (u / 10) (by omega) c hc
     · simp only [List.mem_singleton] at hc
       subst hc;unfold dig;rw [Bg (by omega)];omega
theorem decN_val:∀(u:Nat),valF 0 (Lib.decDigits u)=u:=by
 intro u;induction u using Nat.strongRecOn with
 | _ u ih=>
   rw [Lib.decDigits];split
   · rename_i h
     simp only [Am,Bi,Bg h];omega
   · rename_i h
     rw [Ba,ih (u / 10) (by omega)];simp only [Am,Bi,Bg (show u % 10<10 by omega)];omega
theorem dec_pos (u:Nat):Lib.decDigits u≠[]:=by
 rw [Lib.decDigits];split<;>simp
theorem Bv:∀(l:List UInt8) (a:Nat),(∀c∈l,dig c)->valF a l<18446744073709551616->Lib.parseUint10 a l=.ok (valF a l)
 | [],_,_,_=>rfl
 | c :: l,a,hd,hv=>by
   have hc:=hd c (by simp);unfold dig at hc;rw [Am] at hv ⊢;have h1:=valF_ge l (a * 10+(c.toNat - 48));rw [Lib.parseUint10,if_pos hc,if_neg (by omega),if_neg (by omega)];exact Bv l _ (fun x hx=>hd x (List.mem_cons_of_mem _ hx)) hv
theorem Br (u:Nat) (h:u<18446744073709551616):Lib.parseMag (Lib.decDigits u)=.ok u:=by
 unfold Lib.parseMag;rw [if_neg (dec_pos u),Bv _ _ (dec_dig u) (by rw [decN_val];exact h),decN_val]
theorem atoi_itoa {v:Int} (h0:-9223372036854775808<=v) (h1:v<=9223372036854775807):Lib.atoiAll (Lib.itoa v)=.ok v:=by
 unfold Lib.itoa;split
 · rename_i h
   rw [Lib.atoiAll_minus,Br _ (by omega)];simp only [Lib.signed];rw [if_neg (by omega)];congr 1;omega
 · rename_i h
   have hp:=Br v.toNat (by omega);cases hl:Lib.decDigits v.toNat with
   | nil=>exact absurd hl (dec_pos _)
   | cons c r=>
     have hc:=dec_dig v.toNat c (by rw [hl];simp);unfold dig at hc;rw [Lib.atoiAll_plain c r (by omega) (by omega),<-hl,hp];simp only [Lib.signless];rw [if_neg (by omega)];congr 1;omega
theorem wP_iff {l:List UInt8} {v:Int}:wP l=some v ↔ (-9223372036854775808<=v/\v<=9223372036854775807)/\Lib.itoa v=l:=by
 unfold wP;constructor
 · intro h
   split at h
   · rename_i u hu
     split at h
     · rename_i hi
       simp only [Option.some.injEq] at h;subst h;exact ⟨Lib.atoiAll_bounds hu,hi⟩
     · cases h
   · cases h
 · rintro ⟨⟨h0,h1⟩,rfl⟩
   rw [atoi_itoa h0 h1];simp
end Go.Proofs.YteoalcmhdoopnaaGreatDoor
