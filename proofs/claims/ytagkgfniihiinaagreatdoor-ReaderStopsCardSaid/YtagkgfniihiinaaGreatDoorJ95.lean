/- Values: how the document's functions go through them. -/
import Derived.Test.YtagkgfniihiinaaGreatDoorProg
import Derived.Test.YtagkgfniihiinaaGreatDoorJ56
import Derived.BigQuiet
import Derived.Deep.DeepCutAuto
import Derived.Deep.RegionHeld3
import Derived.Deep.CutBlock
set_option linter.all false
set_option maxHeartbeats 6400000
set_option maxRecDepth 100000
namespace Go.Proofs.YtagkgfniihiinaaGreatDoor
open Go.RowKit
theorem eVal:Elem Tryz.prog 24 26 6 72:=elem_of Tryz.underlying24 (by decide) (by decide) (by kernel_rfl)
theorem Ad:(Tryz.prog.info? 26).map (·.size)=some 6:=by kernel_rfl
theorem one6 (k:Int) (t:ByteArray) (i:Int) (r:Nat) (f:Bool) (a:Option Addr) (n cap:Nat):(#[Value.int .i64 k,.string t,.int .i64 i,.float .f64 r,.bool f,.slice a n cap]:Array Value).all (·.oneCell')=true:=by
 simp [Value.oneCell']
theorem cells6_array (k:Int) (t:ByteArray) (i:Int) (r:Nat) (f:Bool) (a:Option Addr) (n cap:Nat) :
  (Ao k t i r f a n cap).toArray=#[.int .i64 k,.string t,.int .i64 i,.float .f64 r,.bool f,.slice a n cap]:=rfl
theorem shallow_any (v:V):∀(k:Int) (t:ByteArray) (i:Int) (r:Nat) (f:Bool) (a:Option Addr) (n cap:Nat) (deep many:Int) (w:World),RV w.cell? (Ao k t i r f a n cap) v->-2<=deep->deep<=1000->many<=100000->-10<=many ->
  Calls Tryz.prog 35 #[.agg #[.int .i64 k,.string t,.int .i64 i,.float .f64 r,.bool f,.slice a n cap],.int .i64 deep,.int .i64 many] w fun e w' =>
   ∃q:Int,e=.returned (.int .i64 q)/\-1<=q/\(0<=q->(v.count:Int)+q<=many/\(v.deep:Int)<=deep)/\Below w.heap.size w w' := by
 induction v using V.ind with
 | h v ih=>
 intro k t i r f a n cap deep many w hv hd0 hd1 hm1 hm0;replace ih:=Hd ih;by_cases hdn:deep<0
 ·clear hv
  go_enter Tryz.func35,Tryz.ntmps35
  go_wp2;go_ret;exact ⟨-1,rfl,by omega,by omega,(Below.refl _ _).alloc (Nat.le_refl _) _⟩
 by_cases hmn:many<1
 ·clear hv
  go_enter Tryz.func35,Tryz.ntmps35
  go_wp2;go_ret;exact ⟨-1,rfl,by omega,by omega,(Below.refl _ _).alloc (Nat.le_refl _) _⟩
 obtain ⟨_,_,_,_,_,ac⟩:=hv.len;replace ac:=Hd ac
 go_enter Tryz.func35,Tryz.ntmps35
 go_wp2_with fail
 go_loopw [2,20] (fun m i wr=>∃(j:Nat) (q:Int),j<=n/\i=.int .i64 j/\m=.int .i64 q/\0<=q/\(V.countL (v.list.take j):Int)+q+1<=many/\(V.deepL (v.list.take j):Int)<=deep/\Below w.heap.size w wr) (fun _ i _=>n - (intOf i).toNat)
 case atStart=>exact ⟨0,many - 1,Nat.zero_le _,rfl,rfl,by omega,by simp [V.countL],by simp [V.deepL];omega,(Below.refl _ _).alloc (Nat.le_refl _) _⟩
 case round=>
  obtain ⟨j,q,hj,rfl,rfl,hq0,g,ab,c⟩:=hrel;by_cases hlt:j<n
  ·obtain ⟨b,o,ad,a', ae, rfl,hx,d0,d1,d2,d3,d4,d5⟩:=hv.elem hlt
   have ag:=World.block_lt_of_cell? _ _ d0;have up:∀(q:Nat) u,w.cell? ⟨b,q,none⟩=some u->wr.cell? ⟨b,q,none⟩=some u:=fun q u h=>by rw [c.cell (by exact ag)];exact h
   replace d0:=up _ _ d0;replace d1:=up _ _ d1;replace d2:=up _ _ d2;replace d3:=up _ _ d3;replace d4:=up _ _ d4;replace d5:=up _ _ d5;have s:v.list.take (j+1)=v.list.take j++[v.list[j]]:=List.take_succ_eq_append_getElem ad;have d:v.list[j]∈v.list:=List.getElem_mem ad;have hjb:(j:Int)<=V.countL (v.list.take j):=by
    have:=V.length_le (v.list.take j);rw [List.length_take] at this;omega
   have hjc:(j:Int)<=100000:=by omega
   obtain ⟨x,hxe⟩:∃x,x=v.list[j]:=⟨_,rfl⟩;rw [<-hxe] at hx d0 d1 d2 d3 d4 d5 s d;have ah := Hd (hx.mono (Aa (c.trans ((Below.refl wr.heap.size wr).alloc (Nat.le_refl _) (.cells #[.int .i64 x.kind,.string x.text,.int .i64 x.int,.float .f64 x.real,.bool x.flag,.slice a' x.list.length ae] 26) |>.mono c.size))));replace s:=Hd s;replace d:=Hd d;replace g:=Hd g;replace ab:=Hd ab;replace hxe:=Hd hxe;clear up hx hv;go_wp2_with fail
   refine (ih.out x d.out _ _ _ _ _ _ _ _ (deep - 1) q _ ah.out (by omega) (by omega) (by have:=g.out;omega) (by omega)).mono ?_;rintro e w2 ⟨p,rfl,hp1,hp,af⟩;have aa:Below w.heap.size w w2:=(c.alloc c.size _).trans (af.mono (by have:=c.size;simp;omega));clear af c d0 d1 d2 d3 d4 d5;by_cases hpn:p<0
   ·go_wp2
    go_ret;exact ⟨-1,rfl,by omega,by omega,aa⟩
   ·replace hp:=Hd hp
    go_wp2
    go_roundw
    case rel=>
     obtain ⟨h1,h2⟩:=hp.out (by omega);refine ⟨j+1,p,by omega,by go_num,rfl,by omega,?_,?_,aa⟩
     ·have:=g.out;rw [s.out,V.countL_append];simp only [V.countL];omega
     ·have h3:=ab.out
      have:∀(l:List V) y,V.deepL (l++[y])=max (V.deepL l) (y.deep+1):=by
       intro l y;induction l with
       | nil=>simp [V.deepL]
       | cons z l ih=>simp only [List.cons_append,V.deepL,ih];omega
      rw [s.out,this];omega
    case measure=>simp [intOf];omega
  ·have ai:j=n:=by omega
   subst ai;rw [ac.out,List.take_length] at g ab;clear hv;go_wp2;go_ret;refine ⟨q,rfl,by omega,fun _=>⟨?_,?_⟩,c⟩
   ·cases v;simp only [V.count,V.list] at g ⊢;omega
   ·cases v;simp only [V.deep,V.list] at ab ⊢;omega
theorem small_any {v:V} {k:Int} {t:ByteArray} {i:Int} {r:Nat} {f:Bool} {a:Option Addr} {n cap:Nat} {w:World} (hv:RV w.cell? (Ao k t i r f a n cap) v) :
   Calls Tryz.prog 17 #[.agg #[.int .i64 k,.string t,.int .i64 i,.float .f64 r,.bool f,.slice a n cap]] w fun e w' =>
     ∃b:Bool,e=.returned (.bool b)/\(b=true->v.count<=3000/\v.deep<=30)/\Below w.heap.size w w' := by
 go_enter Tryz.func17,Tryz.ntmps17
 go_wp2_with fail
 refine (shallow_any v _ _ _ _ _ _ _ _ 30 3000 _ (hv.mono (Aa ((Below.refl _ _).alloc (Nat.le_refl _) _))) (by omega) (by omega) (by omega) (by omega)).mono ?_;rintro e w1 ⟨q,rfl,hq1,hq,hb⟩;have c:Below w.heap.size w w1:=((Below.refl _ _).alloc (Nat.le_refl _) _).trans (hb.mono (by simp));clear hv hb;replace hq:=Hd hq;go_wp2;go_ret
 exact ⟨decide (0<=q),rfl,fun h=>by have h0:0<=q:=by simpa using h
                                    have:=hq.out h0;omega,c⟩
theorem f64bits_run (r:Nat) (w:World):(callFunc 55 #[.float .f64 r]).run Tryz.prog w=.ok (.value (.int .u64 r)) w:=by kernel_rfl
theorem Cu (r:Nat) (w:World):Calls Tryz.prog 39 #[.float .f64 r] w fun e w' => e=.returned (.int .u64 (A9 r))/\w' = w:=by
 have hf:=f64bits_run r;by_cases hn:nanB r=true
 ·have e1:(FloatKind.f64.format.order r r != some .eq)=true:=hn
  have e2:A9 r=9221120237041090561:=by simp [A9,hn]
  rw [e2];clear hn e2
  go_enter Tryz.func39,Tryz.ntmps39
  go_wp2;go_ret;exact ⟨rfl,rfl⟩
 ·have e1:(FloatKind.f64.format.order r r != some .eq)=false:=by simpa [nanB] using hn
  have e2:A9 r=r:=by simp [A9,hn]
  rw [e2];clear hn e2
  go_enter Tryz.func39,Tryz.ntmps39
  go_wp2;go_ret;exact ⟨rfl,rfl⟩
def Bt (k:Int):Bool:=decide (k=1\/k=2\/k=4\/k=9\/k=10\/k=11)
def numK (k:Int):Bool:=decide (k=3)
def Bz (k:Int):Bool:=decide (k=7)
def B3 (k:Int):Bool:=decide (k=8)
def Al (k:Int):Bool:=decide (k=5\/k=12\/k=13\/k=14)
def Cm (k:Int):Bool:=decide (1<=k/\k<=14)
theorem Fz (k:Int) (w:World):Calls Tryz.prog 105 #[.int .i64 k] w fun e w' =>
  e=.returned (.tuple #[.agg #[.bool (Bt k),.bool (numK k),.bool (Bz k),.bool (B3 k),.bool (Al k)],.bool (Cm k)])/\Below w.heap.size w w' := by
 rcases (by omega:k=1\/k=2\/k=3\/k=4\/k=5\/k=6\/k=7\/k=8\/k=9\/k=10\/k=11\/k=12\/k=13\/k=14\/(k<1\/14<k)) with rfl | rfl | rfl | rfl | rfl | rfl | rfl | rfl | rfl | rfl | rfl | rfl | rfl | rfl | h
 all_goals
  have e1:=Hd (Below.alloc (Below.refl w.heap.size w) (Nat.le_refl _))
 iterate 14
  ·go_enter Tryz.func105,Tryz.ntmps105
   go_wp2;exact bodyPost_ret (v:=.tuple #[.agg #[.bool (Bt _),.bool (numK _),.bool (Bz _),.bool (B3 _),.bool (Al _)],.bool (Cm _)]) (by simp [results,Tryz.results105,go_sem,Bt,numK,Bz,B3,Al,Cm]) rfl ⟨rfl,e1.out _⟩
 ·have h1:(k == 1)=false:=by simp;omega
  have h2:(k == 2)=false:=by simp;omega
  have h3:(k == 3)=false:=by simp;omega
  have h4:(k == 4)=false:=by simp;omega
  have h5:(k == 5)=false:=by simp;omega
  have h6:(k == 6)=false:=by simp;omega
  have h7:(k == 7)=false:=by simp;omega
  have h8:(k == 8)=false:=by simp;omega
  have h9:(k == 9)=false:=by simp;omega
  have h10:(k == 10)=false:=by simp;omega
  have h11:(k == 11)=false:=by simp;omega
  have h12:(k == 12)=false:=by simp;omega
  have h13:(k == 13)=false:=by simp;omega
  have h14:(k == 14)=false:=by simp;omega
  have q1:Bt k=false:=by simp [Bt];omega
  have q2:numK k=false:=by simp [numK];omega
  have q3:Bz k=false:=by simp [Bz];omega
  have q4:B3 k=false:=by simp [B3];omega
  have q5:Al k=false:=by simp [Al];omega
  have q6:Cm k=false:=by simp [Cm];omega
  rw [q1,q2,q3,q4,q5,q6];clear q1 q2 q3 q4 q5 q6 h
  go_enter Tryz.func105,Tryz.ntmps105
  go_wp2;exact bodyPost_ret (v:=.tuple #[.agg #[.bool false,.bool false,.bool false,.bool false,.bool false],.bool false]) (by simp [results,Tryz.results105,go_sem]) rfl ⟨rfl,e1.out _⟩
theorem realBits_any (r:Nat) (w:World):Calls Tryz.prog 130 #[.float .f64 r] w fun e w' => e=.returned (.int .u64 (A9 r))/\w' = w:=by
 have hf:=f64bits_run r;have a:Calls Tryz.prog 76 #[.float .f64 r] w fun e w' => e=.returned (.bool (FloatKind.f64.format.order r r != some .eq))/\w' = w:=by
  clear hf
  go_enter Tryz.func76,Tryz.ntmps76
  go_wp2;go_ret;exact ⟨rfl,rfl⟩
 by_cases hn:nanB r=true
 ·have e1:(FloatKind.f64.format.order r r != some .eq)=true:=hn
  have e2:A9 r=9221120237041090561:=by simp [A9,hn]
  rw [e2];rw [e1] at a;clear hn e2 e1
  go_enter Tryz.func130,Tryz.ntmps130
  go_wp2_with fail
  refine a.mono ?_;rintro e w' ⟨rfl,rfl⟩;go_wp2;go_ret;exact ⟨rfl,rfl⟩
 ·have e1:(FloatKind.f64.format.order r r != some .eq)=false:=by simpa [nanB] using hn
  have e2:A9 r=r:=by simp [A9,hn]
  rw [e2];rw [e1] at a;clear hn e2 e1
  go_enter Tryz.func130,Tryz.ntmps130
  go_wp2_with fail
  refine a.mono ?_;rintro e w' ⟨rfl,rfl⟩;go_wp2;go_ret;exact ⟨rfl,rfl⟩
theorem classK (k:Int):(Bt k,numK k,Bz k,B3 k,Al k)=(true,false,false,false,false)\/(Bt k,numK k,Bz k,B3 k,Al k)=(false,true,false,false,false)\/(Bt k,numK k,Bz k,B3 k,Al k)=(false,false,true,false,false) \/
  (Bt k,numK k,Bz k,B3 k,Al k)=(false,false,false,true,false)\/(Bt k,numK k,Bz k,B3 k,Al k)=(false,false,false,false,true)\/(Bt k,numK k,Bz k,B3 k,Al k)=(false,false,false,false,false):=by
 simp only [Prod.mk.injEq,Bt,numK,Bz,B3,Al,decide_eq_true_eq,decide_eq_false_iff_not];omega
def Ef (s:ByteArray):Bool:=s.toList.isEmpty
def Bo (t n r f l:Bool) (v:V):Bool:=(t || Ef v.text) && (n || decide (v.int=0)) && (r || decide (A9 v.real=0)) && (f || !v.flag) && (l || decide (v.list.length=0))
def B4 (v:V):Bool:=Bo (Bt v.kind) (numK v.kind) (Bz v.kind) (B3 v.kind) (Al v.kind) v
theorem Di (v:V) (a:Option Addr) (cap:Nat) (w:World) :
  Calls Tryz.prog 106 #[.agg #[.int .i64 v.kind,.string v.text,.int .i64 v.int,.float .f64 v.real,.bool v.flag,.slice a v.list.length cap],.agg #[.bool (Bt v.kind),.bool (numK v.kind),.bool (Bz v.kind),.bool (B3 v.kind),.bool (Al v.kind)]] w fun e w' =>
   e=.returned (.bool (B4 v))/\Below w.heap.size w w' := by
 have hb:=Hd (fun (o p:Obj)=>((Below.refl w.heap.size w).alloc (Nat.le_refl _) o).alloc (by simp) p);have c:=fun (W:World)=>realBits_any v.real W;unfold B4;generalize hn:v.list.length=n;replace hn:=Hd hn;rcases classK v.kind with h | h | h | h | h | h
 all_goals
  simp only [Prod.mk.injEq] at h
  obtain ⟨h1,h2,h3,h4,h5⟩:=h
  rw [h1,h2,h3,h4,h5]
  clear h1 h2 h3 h4 h5
 all_goals
  go_enter Tryz.func106,Tryz.ntmps106
  go_wp2_with (go_at_call 130;refine (c _).mono ?_;rintro e w' ⟨rfl,rfl⟩)
  all_goals
   go_ret
   refine ⟨congrArg (fun b=>Ending.returned (.bool b)) ?_,hb.out _ _⟩
   simp [Bo,Ef,hn.out, *]
   try (by_cases hz:n=0<;>simp [hz])
theorem same03_any (u:V):∀(v:V) (a:Option Addr) (n cap:Nat) (a' : Option Addr) (n' cap' : Nat) (w:World),RV w.cell? (Ao u.kind u.text u.int u.real u.flag a n cap) u->RV w.cell? (Ao v.kind v.text v.int v.real v.flag a' n' cap') v->u.count<=100000000 ->
  Calls Tryz.prog 19 #[.agg #[.int .i64 u.kind,.string u.text,.int .i64 u.int,.float .f64 u.real,.bool u.flag,.slice a n cap],.agg #[.int .i64 v.kind,.string v.text,.int .i64 v.int,.float .f64 v.real,.bool v.flag,.slice a' n' cap']] w fun e w' =>
   ∃q:Bool,e=.returned (.bool q)/\(q=true ↔ u.norm=v.norm)/\Below w.heap.size w w' := by
 induction u using V.ind with
 | h u ih=>
 intro v a n cap a' n' cap' w hu hv g;replace ih:=Hd ih;obtain ⟨_,_,_,_,_,d⟩:=hu.len;obtain ⟨_,_,_,_,_,f⟩:=hv.len;have m:n<100000000:=by
  have:=V.length_le u.list;have:V.countL u.list<u.count:=by cases u;simp only [V.count,V.list];omega
  omega
 by_cases c1:u.kind=v.kind
 case neg=>
  have hd:¬u.norm=v.norm:=fun h=>c1 ((V.norm_eq u v).1 h).1;have b1:(u.kind != v.kind)=true:=by simpa using c1
  clear hu hv d f m g c1 ih;replace hd:=Hd hd
  go_enter Tryz.func19,Tryz.ntmps19
  go_wp2_with fail
  go_quiet ((go_at_call 39;exact Calls.quiet_of_same (Cu _ _)))
  go_wp2;go_ret;exact ⟨false,rfl,by simp [hd.out],Below.drewN (((Below.refl _ _).alloc (Nat.le_refl _) _).alloc (by simp) _)⟩
 have b1:(u.kind != v.kind)=false:=by simpa using c1
 by_cases c2:u.text=v.text
 case neg=>
  have hd:¬u.norm=v.norm:=fun h=>c2 ((V.norm_eq u v).1 h).2.1;have b2:=str_ne c2;clear hu hv d f m g c1 c2 ih;replace hd:=Hd hd
  go_enter Tryz.func19,Tryz.ntmps19
  go_wp2_with fail
  go_quiet ((go_at_call 39;exact Calls.quiet_of_same (Cu _ _)))
  go_wp2;go_ret;exact ⟨false,rfl,by simp [hd.out],Below.drewN (((Below.refl _ _).alloc (Nat.le_refl _) _).alloc (by simp) _)⟩
 have b2:=str_eq c2;by_cases c3:u.int=v.int
 case neg=>
  have hd:¬u.norm=v.norm:=fun h=>c3 ((V.norm_eq u v).1 h).2.2.1;have b3:(u.int != v.int)=true:=by simpa using c3
  clear hu hv d f m g c1 c2 c3 ih;replace hd:=Hd hd
  go_enter Tryz.func19,Tryz.ntmps19
  go_wp2_with fail
  go_quiet ((go_at_call 39;exact Calls.quiet_of_same (Cu _ _)))
  go_wp2;go_ret;exact ⟨false,rfl,by simp [hd.out],Below.drewN (((Below.refl _ _).alloc (Nat.le_refl _) _).alloc (by simp) _)⟩
 have b3:(u.int != v.int)=false:=by simpa using c3
 by_cases c4:A9 u.real=A9 v.real
 case neg=>
  have hd:¬u.norm=v.norm:=fun h=>c4 ((V.norm_eq u v).1 h).2.2.2.1;have b4:((A9 u.real:Int) != (A9 v.real:Int))=true:=by simp;omega
  clear hu hv d f m g c1 c2 c3 c4 ih;replace hd:=Hd hd
  go_enter Tryz.func19,Tryz.ntmps19
  go_wp2_with fail
  go_quiet ((go_at_call 39;exact Calls.quiet_of_same (Cu _ _)))
  go_wp2;go_ret;exact ⟨false,rfl,by simp [hd.out],Below.drewN (((Below.refl _ _).alloc (Nat.le_refl _) _).alloc (by simp) _)⟩
 have b4:((A9 u.real:Int) != (A9 v.real:Int))=false:=by simp;omega
 by_cases c5:u.flag=v.flag
 case neg=>
  have hd:¬u.norm=v.norm:=fun h=>c5 ((V.norm_eq u v).1 h).2.2.2.2.1;have b5:(u.flag == v.flag)=false:=by simpa using c5
  clear hu hv d f m g c1 c2 c3 c4 c5 ih;replace hd:=Hd hd
  go_enter Tryz.func19,Tryz.ntmps19
  go_wp2_with fail
  go_quiet ((go_at_call 39;exact Calls.quiet_of_same (Cu _ _)))
  go_wp2;go_ret;exact ⟨false,rfl,by simp [hd.out],Below.drewN (((Below.refl _ _).alloc (Nat.le_refl _) _).alloc (by simp) _)⟩
 have b5:(u.flag == v.flag)=true:=by simpa using c5
 by_cases c6:n=n'
 case neg=>
  have hd:¬u.norm=v.norm:=fun h=>c6 (by have:=congrArg List.length ((V.norm_eq u v).1 h).2.2.2.2.2;simpa [d,f] using this);have b6:((n:Int) != (n' : Int))=true:=by simp;omega
  clear hu hv d f m g c1 c2 c3 c4 c5 c6 ih;replace hd:=Hd hd
  go_enter Tryz.func19,Tryz.ntmps19
  go_wp2_with fail
  go_quiet ((go_at_call 39;exact Calls.quiet_of_same (Cu _ _)))
  go_wp2;go_ret;exact ⟨false,rfl,by simp [hd.out],Below.drewN (((Below.refl _ _).alloc (Nat.le_refl _) _).alloc (by simp) _)⟩
 subst c6;have b6:((n:Int) != (n:Int))=false:=by simp
 have l:u.norm=v.norm ↔ u.list.map V.norm=v.list.map V.norm:=by
  rw [V.norm_eq];simp [c1,c2,c3,c4,c5]
 replace l:=Hd l;replace d:=Hd d;replace f:=Hd f;clear c1 c2 c3 c4 c5
 go_enter Tryz.func19,Tryz.ntmps19
 go_wp2_with fail
 go_quiet ((go_at_call 39;exact Calls.quiet_of_same (Cu _ _)))
 go_wp2_with fail
 obtain ⟨W2,hW2⟩:∃W2,W2=((w.alloc (.cells #[.int .i64 u.kind,.string u.text,.int .i64 u.int,.float .f64 u.real,.bool u.flag,.slice a n cap] 26)).alloc (.cells #[.int .i64 v.kind,.string v.text,.int .i64 v.int,.float .f64 v.real,.bool v.flag,.slice a' n cap'] 26)).drewN nq:=⟨_,rfl⟩;have ad:Below w.heap.size w W2:=by rw [hW2];exact Below.drewN (((Below.refl _ _).alloc (Nat.le_refl _) _).alloc (by simp) _)
 have p:W2.heap.size=w.heap.size+2:=by rw [hW2];simp
 have e5:W2.cell? ⟨w.heap.size,5,none⟩=some (.slice a n cap):=by rw [hW2,World.cell?_drewN,World.cell?_alloc_past _ _ _ (by simp),World.cell?_alloc_new];rfl
 have g5:W2.cell? ⟨w.heap.size+1,5,none⟩=some (.slice a' n cap'):=by
  rw [hW2,World.cell?_drewN,show w.heap.size+1=(w.alloc (.cells #[.int .i64 u.kind,.string u.text,.int .i64 u.int,.float .f64 u.real,.bool u.flag,.slice a n cap] 26)).heap.size by simp,World.cell?_alloc_new];rfl
 rw [<-hW2];clear hW2;replace p:=Hd p;replace e5:=Hd e5;replace g5:=Hd g5;go_loopw [53] (fun i wr=>∃k:Nat,k<=n/\i=.int .i64 k/\(u.list.take k).map V.norm=(v.list.take k).map V.norm/\Below W2.heap.size W2 wr) (fun i _=>n - (intOf i).toNat)
 case atStart=>exact ⟨0,Nat.zero_le _,rfl,rfl,Below.refl _ _⟩
 case round=>
  obtain ⟨k,hk,rfl,r,j⟩:=hrel;replace r:=Hd r;have c:=ad.trans (j.mono (by rw [p.out];omega));by_cases hlt:k<n
  ·obtain ⟨x,b1,o1,a1,p1,ab,s,rfl,hx,d0,d1,d2,d3,d4,d5⟩:=hu.elem' hlt
   obtain ⟨y,b2,o2,a2,p2,ac,ah,rfl,hy,k0,k1,k2,k3,k4,k5⟩:=hv.elem' hlt;have q1:=World.block_lt_of_cell? _ _ d0;have q2:=World.block_lt_of_cell? _ _ k0;have up:∀(b q:Nat) u,b<w.heap.size->w.cell? ⟨b,q,none⟩=some u->wr.cell? ⟨b,q,none⟩=some u:=fun b q u hb h=>by rw [c.cell (by exact hb)];exact h
   replace d0:=up _ _ _ q1 d0;replace d1:=up _ _ _ q1 d1;replace d2:=up _ _ _ q1 d2;replace d3:=up _ _ _ q1 d3;replace d4:=up _ _ _ q1 d4;replace d5:=up _ _ _ q1 d5;replace k0:=up _ _ _ q2 k0;replace k1:=up _ _ _ q2 k1;replace k2:=up _ _ _ q2 k2;replace k3:=up _ _ _ q2 k3;replace k4:=up _ _ _ q2 k4;replace k5:=up _ _ _ q2 k5;have m5:wr.cell? ⟨w.heap.size,5,none⟩=some (.slice (some ⟨b1,o1,none⟩) n cap):=by rw [j.cell (by show w.heap.size<_;rw [p.out];omega)];exact e5.out
   have n5:wr.cell? ⟨w.heap.size+1,5,none⟩=some (.slice (some ⟨b2,o2,none⟩) n cap'):=by rw [j.cell (by show w.heap.size+1<_;rw [p.out];omega)];exact g5.out
   have z1:b1<wr.heap.size:=Nat.lt_of_lt_of_le q1 c.size;have z2:b2<wr.heap.size:=Nat.lt_of_lt_of_le q2 c.size;have z3:w.heap.size+1<wr.heap.size:=by have:=j.size;rw [p.out] at this;omega
   have z4:w.heap.size<wr.heap.size:=by omega
   have ae := Hd (hx.mono (Aa c));have af := Hd (hy.mono (Aa c));have t:x.count<=100000000:=by have:=V.count_mem s;have:=u.count_list_lt;omega
   have z:=Hd (map_take_snoc ab ac r.out);have i0:(0:Int)<=(k:Int):=by omega
   have i1:(k:Int)<(n:Int):=by omega
   replace s:=Hd s;replace t:=Hd t;clear up hx hy hu hv ab ac ah q1 q2;go_wp2_with fail
   go_region_held3 (fun w' => Below (wr).heap.size (wr) w' /\ ∀b o,b<(wr).heap.size->w'.cell? ⟨b,o,none⟩=(wr).cell? ⟨b,o,none⟩) (first | assumption | exact kp_drew | exact kp_keep2 (by assumption) (by assumption) | exact kp_keep (by assumption) (by assumption) | exact kp_alloc (by assumption) _) ((go_at_call 19;refine (ih.out x s.out y a1 x.list.length p1 a2 y.list.length p2 _ (ae.out.mono (Aa (And.left (by assumption)))) (af.out.mono (Aa (And.left (by assumption)))) t.out).mono ?_;rintro e w3 ⟨q,rfl,hq,ai⟩))
   have aa:Below wr.heap.size wr w3:=And.left (show Below wr.heap.size wr w3/\∀b o,b<wr.heap.size->w3.cell? ⟨b,o,none⟩=wr.cell? ⟨b,o,none⟩ from by assumption);clear ai d0 d1 d2 d3 d4 d5 k0 k1 k2 k3 k4 k5 m5 n5;cases q with
   | false=>
    replace hq:=Hd hq;go_wp2;go_ret;refine ⟨false,rfl,⟨fun h=>(by cases h),fun h=>?_⟩,c.trans (aa.mono c.size)⟩;have h1:=map_take_of (l.out.1 h) (k+1);exact hq.out.2 (z.out.1 h1)
   | true=>
    replace hq:=Hd hq;go_wp2
    go_roundw
    case rel=>exact ⟨k+1,by omega,by go_num,z.out.2 (hq.out.1 rfl),j.trans (aa.mono j.size)⟩
    case measure=>simp [intOf];omega
  ·have ag:k=n:=by omega
   subst ag;have h1:=r.out;rw [List.take_of_length_le (by rw [<-d.out];exact Nat.le_refl _),List.take_of_length_le (by rw [<-f.out];exact Nat.le_refl _)] at h1;replace h1:=Hd h1;clear hu hv;go_wp2;go_ret;exact ⟨true,rfl,⟨fun _=>l.out.2 h1.out,fun _=>rfl⟩,c⟩
