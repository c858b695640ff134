/- Whether a value can be; how deep it is; how many there are in it. -/
import Derived.Test.YtfaihaoajdcjbaaGreatDoorRight
import Derived.Test.YtfaihaoajdcjbaaGreatDoorBase
import Derived.Deep.RegionHeld3
set_option linter.all false
namespace Go.Proofs.YtfaihaoajdcjbaaGreatDoor
open Go.RowKit
def Du (v:V):Int:=if v.fine 8=true/\v.count<=1000 then 0 else 31
theorem check_any (v:V) (a:Option Addr) (cap:Nat) (w:World) (hv:RV w.cell? (Aj v.kind v.text v.int v.real v.flag a v.list.length cap) v) (hs:v.sized) (hc:v.count<=100000) :
   Calls Tryz.prog 105 #[.agg #[.int .i64 v.kind,.string v.text,.int .i64 v.int,.float .f64 v.real,.bool v.flag,.slice a v.list.length cap]] w fun e w' => e=.returned (.int .i64 (Du v))/\Below w.heap.size w w' := by
 have hal:=(Below.refl w.heap.size w).alloc (Nat.le_refl _) (.cells #[.int .i64 v.kind,.string v.text,.int .i64 v.int,.float .f64 v.real,.bool v.flag,.slice a v.list.length cap] 40);have hv' := Hd (hv.mono (Aa hal));replace hal:=Hd hal;clear hv
 go_enter Tryz.func105,Tryz.ntmps105
 go_wp2_with fail
 refine (right_any v a cap 8 1000 _ hv'.out hs hc (by omega) (by omega) (by omega) (by omega)).mono ?_;rintro e w1 ⟨rfl,hb⟩;have hbel:=hal.out.trans (hb.mono (by simp));clear hb;by_cases h:v.fine 8=true/\v.count<=1000
 · have h1:Az v 8 1000=1000 - v.count:=by unfold Az;rw [if_pos ⟨h.1,by omega⟩]
   have h2:Du v=0:=by unfold Du;rw [if_pos h]
   have h3:=h.2;rw [h1];replace h2:=Hd h2;clear h h1;have h4:¬((1000:Int) - v.count<0):=by omega
   go_wp2;go_ret;exact ⟨by rw [h2.out];rfl,hbel⟩
 · have h1:Az v 8 1000=-1:=by unfold Az;rw [if_neg (fun h' => h ⟨h'.1,by omega⟩)]
   have h2:Du v=31:=by unfold Du;rw [if_neg h]
   rw [h1];replace h2:=Hd h2;clear h h1;go_wp2;go_ret;exact ⟨by rw [h2.out];rfl,hbel⟩
theorem Fh {P:Program} {w0:World} {t e base size bytes n m cx:Nat} {ax:Option Addr} {v:Value} {xs news:List Value} (ty:TypeId) (E:Elem P t e size bytes)
   (hown:w0.ownsRow base e size v n xs) (hr:Reads w0 size (.slice ax m cx) m news) (hnil:ax=none->cx=0) (h1:news.all (fun u=>u.oneCell')=true) (hn:n+m<1000000000) (hbase:base<=w0.heap.size) :
   ∃v' w', (Builtin.append_ #[t,t] ty #[v,.slice ax m cx]).run P w0=.ok v' w' /\ w'.ownsRow base e size v' (n+m) (xs++news)/\Fr (fun k=>v.ownBlock=some k) w0 w' /\ ∀k,v'.ownBlock=some k->v.ownBlock=some k\/w0.heap.size<=k:=by
 obtain ⟨ht,hsz,hb,i,z,hi,hz,hi1,hi2,hz1⟩:=E;have hl:=hr.len.2;cases ax with
 | none=>
   have hm:m=0:=by
     rcases Nat.eq_zero_or_pos m with h | h
     · exact h
     · have:0<news.length:=by rw [hl];exact Nat.mul_pos h hsz
       obtain ⟨b,o', ha,_⟩:=hr.at this;cases ha
   subst hm;have:news=[]:=by simpa using hl
   subst this;rw [hnil rfl];exact ⟨v,w0,run_append_owned_none w0 base t ty e i size ht hi v n xs hown,by simpa using hown,Fr.refl _ _,fun k hk=>Or.inl hk⟩
 | some ad=>
   obtain ⟨v', w', hrun,g1,g2,_,g4⟩:=run_append_own_at (P:=P) w0 base t ty e i z size bytes ht hi hz hi1 hi2 hz1 hsz v n xs hown ad m cx news hl (fun j u hj=>by
     obtain ⟨b,o', ha,hc⟩:=hr.at (List.getElem?_eq_some_iff.1 hj).1;cases ha
     have:=hc j u hj;unfold Addr.add;split
     · rename_i h;rw [h] at this;simpa using this
     · exact this) (fun u hu=>List.all_eq_true.1 h1 u hu) (by unfold maxLen;omega) (by
     have:(n+m) * bytes<=1000000000 * 100000:=Nat.mul_le_mul (by omega) hb;omega) hbase
   refine ⟨v', w', hrun,g1,Fr.of_grown g2,fun k hk=>?_⟩;rcases g4 with g4 | g4
   · exact Or.inl (g4 ▸ hk)
   · rw [g4] at hk;simp at hk;exact Or.inr (by omega)
end Go.Proofs.YtfaihaoajdcjbaaGreatDoor
