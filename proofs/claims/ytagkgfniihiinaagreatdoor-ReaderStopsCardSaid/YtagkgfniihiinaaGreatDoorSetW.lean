/- internal/strconv.setDigits. -/
import Derived.Test.YtagkgfniihiinaaGreatDoorJ100
import Derived.Lib.OwnBridge
set_option linter.all false
namespace Go.Proofs.YtagkgfniihiinaaGreatDoor
open Go.RowKit Go.Sort Go.Lib
structure NZ (l:List UInt8) (j:Nat):Prop where
 le:j<=l.length
 zero:∀i,j<=i->i<l.length->l[i]?=some 48
 last:j=0\/l[j - 1]?≠some 48
theorem NZ.uniq {l:List UInt8} {i j:Nat} (h:NZ l i) (k:NZ l j):i=j:=by
 have a:∀{i j:Nat},NZ l i->NZ l j->¬i<j:=fun {i j} h k hlt=>by
  have h1:=h.zero (j - 1) (by omega) (by have:=k.le;omega);rcases k.last with h2 | h2
  ·omega
  ·exact h2 h1
 rcases Nat.lt_trichotomy i j with h1 | h1 | h1
 ·exact absurd h1 (a h k)
 ·exact h1
 ·exact absurd h1 (a k h)
def encB (b:UInt8):Value:=.int .u8 (b.toNat:Int)
set_option maxRecDepth 100000 in
set_option maxHeartbeats 3200000 in
theorem setDigitsC_any {C:Nat} (hC:20<=C) (hC2:C<=100) {w:World} {blk u:Nat} {p:Int} (hu:1<=u) (hu2:u<18446744073709551616) (p0:-1000<=p) (p1:p<=1000)
  (hz:∀j,j<C->w.cell? ⟨blk,j,none⟩=some (.int .u8 0)/\w.frozen? ⟨blk,j,none⟩=false) :
  Calls Tryz.prog 143 #[.slice (some ⟨blk,0,none⟩) C C,.int .u64 (u:Int),.int .i64 p,.int .i64 (Lib.nDigits u:Int)] w fun e w' =>
   ∃j:Nat,e=.returned (.tuple #[.int .i64 ((Lib.nDigits u:Int)+p),.int .i64 (j:Int)])/\NZ (Lib.decDigits u) j/\(∀i (h:i<(Lib.decDigits u).length),w'.cell? ⟨blk,i,none⟩=some (encB (Lib.decDigits u)[i]))/\Below blk w w' := by
 have aa:Lib.nDigits u<=20:=by have:=Lib.numDigits_eq u hu hu2;split at this<;>omega
 have g:=Lib.decDigits_length u;have hH:Holds encB w blk 0 (Array.replicate (Lib.nDigits u) 0):=fun j hj=>by
  have hj' : j<Lib.nDigits u:=by simpa using hj
  rw [Nat.zero_add];obtain ⟨a,b⟩:=hz j (by omega);refine ⟨?_,b⟩;rw [a,getElem!_pos _ j hj];simp [encB]
 have l:=Tryz.internal_strconv_formatBase10 blk 0 C u (Array.replicate (Lib.nDigits u) 0) w hH (by rw [Array.size_replicate];exact Lib.lt_pow_nDigits u) hu2 (by rw [Array.size_replicate];omega);rw [Array.size_replicate] at l;obtain ⟨n,hn⟩:∃n,n=Lib.nDigits u:=⟨_,rfl⟩;obtain ⟨L,hLe⟩:∃L,L=Lib.decDigits u:=⟨_,rfl⟩;have o:∀(v' : Nat) (dk:Array UInt8),FmtInv n u 0 v' dk->∀i (h:i<L.length),dk.size=n/\L[i]=dk[i]!:=fun v' dk hF i h=>by
  subst hn;subst hLe;exact ⟨hF.size,Lib.row_is_numeral hF i h⟩
 rw [<-hn] at l aa g hH ⊢;rw [<-hLe] at g ⊢;have hn1:(n:Int)<=(C:Int):=by omega
 have hn2:n<=C:=by omega
 replace l:=Hd l;replace hn:=Hd hn;replace hLe:=Hd hLe;replace o:=Hd o;replace hH:=Hd hH;replace g:=Hd g;clear hz
 go_enter Tryz.func143,Tryz.ntmps143
 go_wp2_with fail
 refine l.out.mono ?_;rintro e w1 ⟨rfl,k,v', dk,z,hF⟩;have s:dk.size=n:=hF.size;have f:∀i (h:i<L.length),w1.cell? ⟨blk,i,none⟩=some (encB L[i]):=fun i h=>by
  have h1:=cell?_putRow encB w blk 0 _ dk hH.out (by rw [s];simp) i (by rw [s,<-g.out];exact h);rw [Nat.zero_add] at h1;rw [z,World.cell?_drewN,(o.out v' dk hF i h).2];exact h1
 have r:Below blk w w1:=by
  rw [z];exact Below.drewN (below_putRow (enc:=encB) (q:=0) (d:=dk) (Below.refl blk w) (Nat.le_refl _))
 replace f:=Hd f;replace r:=Hd r;clear z hF s;go_wp2_with fail
 go_loop [3] (fun s3=>∃j:Nat,j<=n/\s3=.int .i64 j/\∀i,j<=i->i<n->L[i]?=some 48) (fun s3=>(RowKit.intOf s3).toNat)
 case atStart=>exact ⟨n,Nat.le_refl _,rfl,fun i h1 h2=>by omega⟩
 case round=>
  obtain ⟨j,hj,rfl,hz⟩:=hrel;have t:=g.out;rcases j with _ | i
  ·have m:NZ L 0:=⟨Nat.zero_le _,fun i h1 h2=>hz i h1 (by omega),.inl rfl⟩
   replace m:=Hd m;replace hz:=Hd hz;clear t;go_wp2
   go_ret2
   exact ⟨0,rfl,m.out,f.out,r.out⟩
  ·have v:i<L.length:=by omega
   have hc:=f.out i v;obtain ⟨c,hce⟩:∃c,c=L[i]:=⟨_,rfl⟩;rw [<-hce] at hc;replace hc:w1.cell? ⟨blk,i,none⟩=some (.int .u8 (c.toNat:Int)):=hc;have hi1:((i+1:Nat):Int) - 1=(i:Int):=by omega
   have hpos:(0:Int)<((i+1:Nat):Int):=by omega
   by_cases h48:c=48
   ·have ab:(c.toNat:Int)=48:=by rw [h48];rfl
    have y:∀k,i<=k->k<n->L[k]?=some 48:=fun k h1 h2=>by
     rcases Nat.eq_or_lt_of_le h1 with h3 | h3
     ·rw [<-h3,List.getElem?_eq_getElem v,<-hce,h48]
     ·exact hz k h3 h2
    replace y:=Hd y;replace hz:=Hd hz;replace hce:=Hd hce;clear t h48;go_wp2
    go_round
    case rel=>exact ⟨i,by omega,by go_num,y.out⟩
    case measure=>simp [RowKit.intOf]
   ·have ab:¬(c.toNat:Int)=48:=fun e=>h48 (UInt8.toNat_inj.1 (by have e8:(48:UInt8).toNat=48:=rfl;omega))
    have m:NZ L (i+1):=⟨by omega,fun k h1 h2=>hz k h1 (by omega),.inr (by
     rw [Nat.add_sub_cancel,List.getElem?_eq_getElem v,<-hce];intro e;exact h48 (Option.some.inj e))⟩
    have hcb:((c.toNat:Int) == 48)=false:=by simpa using ab
    replace m:=Hd m;replace hz:=Hd hz;replace hce:=Hd hce;clear t h48;go_wp2
    go_ret2
    exact ⟨i+1,by simp,m.out,f.out,r.out⟩
theorem setDigits_any {w:World} {blk u:Nat} {p:Int} (hu:1<=u) (hu2:u<18446744073709551616) (p0:-1000<=p) (p1:p<=1000)
  (hz:∀j,j<32->w.cell? ⟨blk,j,none⟩=some (.int .u8 0)/\w.frozen? ⟨blk,j,none⟩=false) :
  Calls Tryz.prog 143 #[.slice (some ⟨blk,0,none⟩) 32 32,.int .u64 (u:Int),.int .i64 p,.int .i64 (Lib.nDigits u:Int)] w fun e w' =>
   ∃j:Nat,e=.returned (.tuple #[.int .i64 ((Lib.nDigits u:Int)+p),.int .i64 (j:Int)])/\NZ (Lib.decDigits u) j/\(∀i (h:i<(Lib.decDigits u).length),w'.cell? ⟨blk,i,none⟩=some (encB (Lib.decDigits u)[i]))/\Below blk w w' :=
 setDigitsC_any (C:=32) (by decide) (by decide) hu hu2 p0 p1 hz
