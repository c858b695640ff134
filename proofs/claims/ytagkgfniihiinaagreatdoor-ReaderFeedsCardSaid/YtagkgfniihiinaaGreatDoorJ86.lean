/- Values: how the document's functions go through them, and how they are copied. -/
import Derived.Test.YtagkgfniihiinaaGreatDoorProg
import Derived.Test.YtagkgfniihiinaaGreatDoorJ50
import Derived.Deep.LoopGhost
import Derived.Deep.QuietTactic
import Derived.BigQuiet
import Derived.Deep.DeepCutAuto
import Derived.Deep.RegionHeld3
import Derived.Deep.CutBlock
set_option linter.all false
namespace Go.Proofs.YtagkgfniihiinaaGreatDoor
open Go.RowKit
theorem eVal:Elem Tryz.prog 24 26 6 72:=elem_of Tryz.underlying24 (by decide) (by decide) (by kernel_rfl)
theorem Ab:(Tryz.prog.info? 26).map (·.size)=some 6:=by kernel_rfl
theorem one6 (k:Int) (t:ByteArray) (i:Int) (r:Nat) (f:Bool) (a:Option Addr) (n cap:Nat):(#[Value.int .i64 k,.string t,.int .i64 i,.float .f64 r,.bool f,.slice a n cap]:Array Value).all (·.oneCell')=true:=by
 simp [Value.oneCell']
theorem f64bits_run (r:Nat) (w:World):(callFunc 55 #[.float .f64 r]).run Tryz.prog w=.ok (.value (.int .u64 r)) w:=by kernel_rfl
theorem Cf (r:Nat) (w:World):Calls Tryz.prog 39 #[.float .f64 r] w fun e w' => e=.returned (.int .u64 (Cn r))/\w' = w:=by
 have hf:=f64bits_run r;by_cases hn:nanB r=true
 · have e1:(FloatKind.f64.format.order r r != some .eq)=true:=hn
   have e2:Cn r=9221120237041090561:=by simp [Cn,hn]
   rw [e2];clear hn e2
   go_enter Tryz.func39,Tryz.ntmps39
   go_wp2;go_ret;exact ⟨rfl,rfl⟩
 · have e1:(FloatKind.f64.format.order r r != some .eq)=false:=by simpa [nanB] using hn
   have e2:Cn r=r:=by simp [Cn,hn]
   rw [e2];clear hn e2
   go_enter Tryz.func39,Tryz.ntmps39
   go_wp2;go_ret;exact ⟨rfl,rfl⟩
def Bj (k:Int):Bool:=decide (k=1\/k=2\/k=4\/k=9\/k=10\/k=11)
def numK (k:Int):Bool:=decide (k=3)
def Bn (k:Int):Bool:=decide (k=7)
def Bq (k:Int):Bool:=decide (k=8)
def Ak (k:Int):Bool:=decide (k=5\/k=12\/k=13\/k=14)
def Cc (k:Int):Bool:=decide (1<=k/\k<=14)
set_option maxHeartbeats 1600000 in
theorem Er (k:Int) (w:World):Calls Tryz.prog 105 #[.int .i64 k] w fun e w' =>
   e=.returned (.tuple #[.agg #[.bool (Bj k),.bool (numK k),.bool (Bn k),.bool (Bq k),.bool (Ak k)],.bool (Cc k)])/\Below w.heap.size w w' := by
 rcases (by omega:k=1\/k=2\/k=3\/k=4\/k=5\/k=6\/k=7\/k=8\/k=9\/k=10\/k=11\/k=12\/k=13\/k=14\/(k<1\/14<k)) with rfl | rfl | rfl | rfl | rfl | rfl | rfl | rfl | rfl | rfl | rfl | rfl | rfl | rfl | h
 all_goals
   have e1:=Below.alloc (Below.refl w.heap.size w) (Nat.le_refl _)
   replace e1:=Hd e1
 iterate 14
   · go_enter Tryz.func105,Tryz.ntmps105
     go_wp2;exact bodyPost_ret (v:=.tuple #[.agg #[.bool (Bj _),.bool (numK _),.bool (Bn _),.bool (Bq _),.bool (Ak _)],.bool (Cc _)]) (by simp [results,Tryz.results105,go_sem,Bj,numK,Bn,Bq,Ak,Cc]) rfl ⟨rfl,e1.out _⟩
 · have h1:(k == 1)=false:=by simp;omega
   have h2:(k == 2)=false:=by simp;omega
   have h3:(k == 3)=false:=by simp;omega
   have h4:(k == 4)=false:=by simp;omega
   have h5:(k == 5)=false:=by simp;omega
   have h6:(k == 6)=false:=by simp;omega
   have h7:(k == 7)=false:=by simp;omega
   have h8:(k == 8)=false:=by simp;omega
   have h9:(k == 9)=false:=by simp;omega
   have h10:(k == 10)=false:=by simp;omega
   have h11:(k == 11)=false:=by simp;omega
   have h12:(k == 12)=false:=by simp;omega
   have h13:(k == 13)=false:=by simp;omega
   have h14:(k == 14)=false:=by simp;omega
   have q1:Bj k=false:=by simp [Bj];omega
   have q2:numK k=false:=by simp [numK];omega
   have q3:Bn k=false:=by simp [Bn];omega
   have q4:Bq k=false:=by simp [Bq];omega
   have q5:Ak k=false:=by simp [Ak];omega
   have q6:Cc k=false:=by simp [Cc];omega
   rw [q1,q2,q3,q4,q5,q6];clear q1 q2 q3 q4 q5 q6 h
   go_enter Tryz.func105,Tryz.ntmps105
   go_wp2;exact bodyPost_ret (v:=.tuple #[.agg #[.bool false,.bool false,.bool false,.bool false,.bool false],.bool false]) (by simp [results,Tryz.results105,go_sem]) rfl ⟨rfl,e1.out _⟩
theorem realBits_any (r:Nat) (w:World):Calls Tryz.prog 130 #[.float .f64 r] w fun e w' => e=.returned (.int .u64 (Cn r))/\w' = w:=by
 have hf:=f64bits_run r;have isn:Calls Tryz.prog 76 #[.float .f64 r] w fun e w' => e=.returned (.bool (FloatKind.f64.format.order r r != some .eq))/\w' = w:=by
   clear hf
   go_enter Tryz.func76,Tryz.ntmps76
   go_wp2;go_ret;exact ⟨rfl,rfl⟩
 by_cases hn:nanB r=true
 · have e1:(FloatKind.f64.format.order r r != some .eq)=true:=hn
   have e2:Cn r=9221120237041090561:=by simp [Cn,hn]
   rw [e2];rw [e1] at isn;clear hn e2 e1
   go_enter Tryz.func130,Tryz.ntmps130
   go_wp2_with fail
   refine isn.mono ?_;rintro e w' ⟨rfl,rfl⟩;go_wp2;go_ret;exact ⟨rfl,rfl⟩
 · have e1:(FloatKind.f64.format.order r r != some .eq)=false:=by simpa [nanB] using hn
   have e2:Cn r=r:=by simp [Cn,hn]
   rw [e2];rw [e1] at isn;clear hn e2 e1
   go_enter Tryz.func130,Tryz.ntmps130
   go_wp2_with fail
   refine isn.mono ?_;rintro e w' ⟨rfl,rfl⟩;go_wp2;go_ret;exact ⟨rfl,rfl⟩
theorem classK (k:Int):(Bj k,numK k,Bn k,Bq k,Ak k)=(true,false,false,false,false)\/(Bj k,numK k,Bn k,Bq k,Ak k)=(false,true,false,false,false)\/(Bj k,numK k,Bn k,Bq k,Ak k)=(false,false,true,false,false) \/
   (Bj k,numK k,Bn k,Bq k,Ak k)=(false,false,false,true,false)\/(Bj k,numK k,Bn k,Bq k,Ak k)=(false,false,false,false,true)\/(Bj k,numK k,Bn k,Bq k,Ak k)=(false,false,false,false,false):=by
 simp only [Prod.mk.injEq,Bj,numK,Bn,Bq,Ak,decide_eq_true_eq,decide_eq_false_iff_not]
 omega
def Ec (s:ByteArray):Bool:=s.toList.isEmpty
def Bi (t n r f l:Bool) (v:V):Bool:=(t || Ec v.text) && (n || decide (v.int=0)) && (r || decide (Cn v.real=0)) && (f || !v.flag) && (l || decide (v.list.length=0))
def Bz (v:V):Bool:=Bi (Bj v.kind) (numK v.kind) (Bn v.kind) (Bq v.kind) (Ak v.kind) v
set_option maxHeartbeats 3200000 in
theorem Cy (v:V) (a:Option Addr) (cap:Nat) (w:World) :
   Calls Tryz.prog 106 #[.agg #[.int .i64 v.kind,.string v.text,.int .i64 v.int,.float .f64 v.real,.bool v.flag,.slice a v.list.length cap],.agg #[.bool (Bj v.kind),.bool (numK v.kind),.bool (Bn v.kind),.bool (Bq v.kind),.bool (Ak v.kind)]] w fun e w' =>
     e=.returned (.bool (Bz v))/\Below w.heap.size w w' := by
 have hb:=fun (o p:Obj)=>((Below.refl w.heap.size w).alloc (Nat.le_refl _) o).alloc (by simp) p
 have hrb:=fun (W:World)=>realBits_any v.real W
 replace hb:=Hd hb
 unfold Bz
 generalize hn:v.list.length=n
 replace hn:=Hd hn
 rcases classK v.kind with h | h | h | h | h | h
 all_goals
   simp only [Prod.mk.injEq] at h
   obtain ⟨h1,h2,h3,h4,h5⟩:=h
   rw [h1,h2,h3,h4,h5]
   clear h1 h2 h3 h4 h5
 all_goals
   go_enter Tryz.func106,Tryz.ntmps106
   go_wp2_with (go_at_call 130;refine (hrb _).mono ?_;rintro e w' ⟨rfl,rfl⟩)
   all_goals
     go_ret
     refine ⟨congrArg (fun b=>Ending.returned (.bool b)) ?_,hb.out _ _⟩
     simp [Bi,Ec,hn.out, *]
     try (by_cases hz:n=0<;>simp [hz])
set_option maxRecDepth 100000 in
set_option maxHeartbeats 6400000 in
theorem same03_any (u:V):∀(v:V) (a:Option Addr) (n cap:Nat) (a' : Option Addr) (n' cap' : Nat) (w:World),RV w.cell? (An u.kind u.text u.int u.real u.flag a n cap) u->RV w.cell? (An v.kind v.text v.int v.real v.flag a' n' cap') v->u.count<=100000000 ->
   Calls Tryz.prog 19 #[.agg #[.int .i64 u.kind,.string u.text,.int .i64 u.int,.float .f64 u.real,.bool u.flag,.slice a n cap],.agg #[.int .i64 v.kind,.string v.text,.int .i64 v.int,.float .f64 v.real,.bool v.flag,.slice a' n' cap']] w fun e w' =>
     ∃q:Bool,e=.returned (.bool q)/\(q=true ↔ u.norm=v.norm)/\Below w.heap.size w w' := by
 induction u using V.ind with
 | h u ih=>
 intro v a n cap a' n' cap' w hu hv hcnt
 replace ih:=Hd ih
 obtain ⟨_,_,_,_,_,hnu⟩:=hu.len
 obtain ⟨_,_,_,_,_,hnv⟩:=hv.len
 have hnb:n<100000000:=by
   have:=V.length_le u.list;have:V.countL u.list<u.count:=by cases u;simp only [V.count,V.list];omega
   omega
 by_cases c1:u.kind=v.kind
 case neg=>
   have hd:¬u.norm=v.norm:=fun h=>c1 ((V.norm_eq u v).1 h).1;have b1:(u.kind != v.kind)=true:=by simpa using c1
   clear hu hv hnu hnv hnb hcnt c1 ih;replace hd:=Hd hd
   go_enter Tryz.func19,Tryz.ntmps19
   go_wp2_with fail
   go_quiet ((go_at_call 39;exact Calls.quiet_of_same (Cf _ _)))
   go_wp2;go_ret;exact ⟨false,rfl,by simp [hd.out],Below.drewN (((Below.refl _ _).alloc (Nat.le_refl _) _).alloc (by simp) _)⟩
 have b1:(u.kind != v.kind)=false:=by simpa using c1
 by_cases c2:u.text=v.text
 case neg=>
   have hd:¬u.norm=v.norm:=fun h=>c2 ((V.norm_eq u v).1 h).2.1;have b2:=str_ne c2;clear hu hv hnu hnv hnb hcnt c1 c2 ih;replace hd:=Hd hd
   go_enter Tryz.func19,Tryz.ntmps19
   go_wp2_with fail
   go_quiet ((go_at_call 39;exact Calls.quiet_of_same (Cf _ _)))
   go_wp2;go_ret;exact ⟨false,rfl,by simp [hd.out],Below.drewN (((Below.refl _ _).alloc (Nat.le_refl _) _).alloc (by simp) _)⟩
 have b2:=str_eq c2
 by_cases c3:u.int=v.int
 case neg=>
   have hd:¬u.norm=v.norm:=fun h=>c3 ((V.norm_eq u v).1 h).2.2.1;have b3:(u.int != v.int)=true:=by simpa using c3
   clear hu hv hnu hnv hnb hcnt c1 c2 c3 ih;replace hd:=Hd hd
   go_enter Tryz.func19,Tryz.ntmps19
   go_wp2_with fail
   go_quiet ((go_at_call 39;exact Calls.quiet_of_same (Cf _ _)))
   go_wp2;go_ret;exact ⟨false,rfl,by simp [hd.out],Below.drewN (((Below.refl _ _).alloc (Nat.le_refl _) _).alloc (by simp) _)⟩
 have b3:(u.int != v.int)=false:=by simpa using c3
 by_cases c4:Cn u.real=Cn v.real
 case neg=>
   have hd:¬u.norm=v.norm:=fun h=>c4 ((V.norm_eq u v).1 h).2.2.2.1;have b4:((Cn u.real:Int) != (Cn v.real:Int))=true:=by simp;omega
   clear hu hv hnu hnv hnb hcnt c1 c2 c3 c4 ih;replace hd:=Hd hd
   go_enter Tryz.func19,Tryz.ntmps19
   go_wp2_with fail
   go_quiet ((go_at_call 39;exact Calls.quiet_of_same (Cf _ _)))
   go_wp2;go_ret;exact ⟨false,rfl,by simp [hd.out],Below.drewN (((Below.refl _ _).alloc (Nat.le_refl _) _).alloc (by simp) _)⟩
 have b4:((Cn u.real:Int) != (Cn v.real:Int))=false:=by simp;omega
 by_cases c5:u.flag=v.flag
 case neg=>
   have hd:¬u.norm=v.norm:=fun h=>c5 ((V.norm_eq u v).1 h).2.2.2.2.1;have b5:(u.flag == v.flag)=false:=by simpa using c5
   clear hu hv hnu hnv hnb hcnt c1 c2 c3 c4 c5 ih;replace hd:=Hd hd
   go_enter Tryz.func19,Tryz.ntmps19
   go_wp2_with fail
   go_quiet ((go_at_call 39;exact Calls.quiet_of_same (Cf _ _)))
   go_wp2;go_ret;exact ⟨false,rfl,by simp [hd.out],Below.drewN (((Below.refl _ _).alloc (Nat.le_refl _) _).alloc (by simp) _)⟩
 have b5:(u.flag == v.flag)=true:=by simpa using c5
 by_cases c6:n=n'
 case neg=>
   have hd:¬u.norm=v.norm:=fun h=>c6 (by have:=congrArg List.length ((V.norm_eq u v).1 h).2.2.2.2.2;simpa [hnu,hnv] using this);have b6:((n:Int) != (n' : Int))=true:=by simp;omega
   clear hu hv hnu hnv hnb hcnt c1 c2 c3 c4 c5 c6 ih;replace hd:=Hd hd
   go_enter Tryz.func19,Tryz.ntmps19
   go_wp2_with fail
   go_quiet ((go_at_call 39;exact Calls.quiet_of_same (Cf _ _)))
   go_wp2;go_ret;exact ⟨false,rfl,by simp [hd.out],Below.drewN (((Below.refl _ _).alloc (Nat.le_refl _) _).alloc (by simp) _)⟩
 subst c6
 have b6:((n:Int) != (n:Int))=false:=by simp
 have hnorm:u.norm=v.norm ↔ u.list.map V.norm=v.list.map V.norm:=by
   rw [V.norm_eq];simp [c1,c2,c3,c4,c5]
 replace hnorm:=Hd hnorm
 replace hnu:=Hd hnu
 replace hnv:=Hd hnv
 clear c1 c2 c3 c4 c5
 go_enter Tryz.func19,Tryz.ntmps19
 go_wp2_with fail
 go_quiet ((go_at_call 39;exact Calls.quiet_of_same (Cf _ _)))
 go_wp2_with fail
 obtain ⟨W2,hW2⟩:∃W2,W2=((w.alloc (.cells #[.int .i64 u.kind,.string u.text,.int .i64 u.int,.float .f64 u.real,.bool u.flag,.slice a n cap] 26)).alloc (.cells #[.int .i64 v.kind,.string v.text,.int .i64 v.int,.float .f64 v.real,.bool v.flag,.slice a' n cap'] 26)).drewN nq:=⟨_,rfl⟩
 have hb2:Below w.heap.size w W2:=by rw [hW2];exact Below.drewN (((Below.refl _ _).alloc (Nat.le_refl _) _).alloc (by simp) _)
 have hs2:W2.heap.size=w.heap.size+2:=by rw [hW2];simp
 have e5:W2.cell? ⟨w.heap.size,5,none⟩=some (.slice a n cap):=by rw [hW2,World.cell?_drewN,World.cell?_alloc_past _ _ _ (by simp),World.cell?_alloc_new];rfl
 have g5:W2.cell? ⟨w.heap.size+1,5,none⟩=some (.slice a' n cap'):=by
   rw [hW2,World.cell?_drewN,show w.heap.size+1=(w.alloc (.cells #[.int .i64 u.kind,.string u.text,.int .i64 u.int,.float .f64 u.real,.bool u.flag,.slice a n cap] 26)).heap.size by simp,World.cell?_alloc_new];rfl
 rw [<-hW2]
 clear hW2
 replace hs2:=Hd hs2
 replace e5:=Hd e5
 replace g5:=Hd g5
 go_loopw [53] (fun i wr=>∃k:Nat,k<=n/\i=.int .i64 k/\(u.list.take k).map V.norm=(v.list.take k).map V.norm/\Below W2.heap.size W2 wr) (fun i _=>n - (intOf i).toNat)
 case atStart=>exact ⟨0,Nat.zero_le _,rfl,rfl,Below.refl _ _⟩
 case round=>
   obtain ⟨k,hk,rfl,htk,hbel⟩:=hrel;replace htk:=Hd htk;have hbel0:=hb2.trans (hbel.mono (by rw [hs2.out];omega));by_cases hlt:k<n
   · obtain ⟨x,b1,o1,a1,p1,hxj,hxm,rfl,hx,d0,d1,d2,d3,d4,d5⟩:=hu.elem' hlt
     obtain ⟨y,b2,o2,a2,p2,hyj,hym,rfl,hy,k0,k1,k2,k3,k4,k5⟩:=hv.elem' hlt;have q1:=World.block_lt_of_cell? _ _ d0;have q2:=World.block_lt_of_cell? _ _ k0;have up:∀(b q:Nat) u,b<w.heap.size->w.cell? ⟨b,q,none⟩=some u->wr.cell? ⟨b,q,none⟩=some u:=fun b q u hb h=>by rw [hbel0.cell (by exact hb)];exact h
     replace d0:=up _ _ _ q1 d0;replace d1:=up _ _ _ q1 d1;replace d2:=up _ _ _ q1 d2;replace d3:=up _ _ _ q1 d3;replace d4:=up _ _ _ q1 d4;replace d5:=up _ _ _ q1 d5;replace k0:=up _ _ _ q2 k0;replace k1:=up _ _ _ q2 k1;replace k2:=up _ _ _ q2 k2;replace k3:=up _ _ _ q2 k3;replace k4:=up _ _ _ q2 k4;replace k5:=up _ _ _ q2 k5;have m5:wr.cell? ⟨w.heap.size,5,none⟩=some (.slice (some ⟨b1,o1,none⟩) n cap):=by rw [hbel.cell (by show w.heap.size<_;rw [hs2.out];omega)];exact e5.out
     have n5:wr.cell? ⟨w.heap.size+1,5,none⟩=some (.slice (some ⟨b2,o2,none⟩) n cap'):=by rw [hbel.cell (by show w.heap.size+1<_;rw [hs2.out];omega)];exact g5.out
     have z1:b1<wr.heap.size:=Nat.lt_of_lt_of_le q1 hbel0.size;have z2:b2<wr.heap.size:=Nat.lt_of_lt_of_le q2 hbel0.size;have z3:w.heap.size+1<wr.heap.size:=by have:=hbel.size;rw [hs2.out] at this;omega
     have z4:w.heap.size<wr.heap.size:=by omega
     have hx' := hx.mono (Aa hbel0);have hy' := hy.mono (Aa hbel0);have hxc:x.count<=100000000:=by have:=V.count_mem hxm;have:=u.count_list_lt;omega
     have hst:=map_take_snoc hxj hyj htk.out;have i0:(0:Int)<=(k:Int):=by omega
     have i1:(k:Int)<(n:Int):=by omega
     replace hx' := Hd hx';replace hy' := Hd hy';replace hxm:=Hd hxm;replace hxc:=Hd hxc;replace hst:=Hd hst;clear up hx hy hu hv hxj hyj hym q1 q2;go_wp2_with fail
     go_region_held3 (fun w' => Below (wr).heap.size (wr) w' /\ ∀b o,b<(wr).heap.size->w'.cell? ⟨b,o,none⟩=(wr).cell? ⟨b,o,none⟩) (first | assumption | exact kp_drew | exact kp_keep2 (by assumption) (by assumption) | exact kp_keep (by assumption) (by assumption) | exact kp_alloc (by assumption) _) ((go_at_call 19;refine (ih.out x hxm.out y a1 x.list.length p1 a2 y.list.length p2 _ (hx'.out.mono (Aa (And.left (by assumption)))) (hy'.out.mono (Aa (And.left (by assumption)))) hxc.out).mono ?_;rintro e w3 ⟨q,rfl,hq,hb3⟩))
     have hb4:Below wr.heap.size wr w3:=And.left (show Below wr.heap.size wr w3/\∀b o,b<wr.heap.size->w3.cell? ⟨b,o,none⟩=wr.cell? ⟨b,o,none⟩ from by assumption);clear hb3 d0 d1 d2 d3 d4 d5 k0 k1 k2 k3 k4 k5 m5 n5;cases q with
     | false=>
       replace hq:=Hd hq;go_wp2;go_ret;refine ⟨false,rfl,⟨fun h=>(by cases h),fun h=>?_⟩,hbel0.trans (hb4.mono hbel0.size)⟩;have h1:=map_take_of (hnorm.out.1 h) (k+1);exact hq.out.2 (hst.out.1 h1)
     | true=>
       replace hq:=Hd hq;go_wp2
       go_roundw
       case rel=>exact ⟨k+1,by omega,by go_num,hst.out.2 (hq.out.1 rfl),hbel.trans (hb4.mono hbel.size)⟩
       case measure=>simp [intOf];omega
   · have hkn:k=n:=by omega
     subst hkn;have h1:=htk.out;rw [List.take_of_length_le (by rw [<-hnu.out];exact Nat.le_refl _),List.take_of_length_le (by rw [<-hnv.out];exact Nat.le_refl _)] at h1;replace h1:=Hd h1;clear hu hv;go_wp2;go_ret;exact ⟨true,rfl,⟨fun _=>hnorm.out.2 h1.out,fun _=>rfl⟩,hbel0⟩
end Go.Proofs.YtagkgfniihiinaaGreatDoor
