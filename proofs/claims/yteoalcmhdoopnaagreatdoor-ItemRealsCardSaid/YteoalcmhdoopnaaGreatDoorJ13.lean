/- internal/strconv.prescale and the small ones beside it. -/
import Derived.Test.YteoalcmhdoopnaaGreatDoorUscW
import Derived.Test.YteoalcmhdoopnaaGreatDoorBase
import Derived.Test.YteoalcmhdoopnaaGreatDoorJ38
namespace Go.Proofs.YteoalcmhdoopnaaGreatDoor
open Go.RowKit
def Pows (w:World):Prop:=∀p:Int,-348<=p->p<=347->w.cell? ⟨13,(p+348).toNat * 2,none⟩=some (.int .u64 (hiT p:Int))/\w.cell? ⟨13,(p+348).toNat * 2+1,none⟩=some (.int .u64 (loT p:Int))
theorem Pows.lt {w:World} (h:Pows w):13<w.heap.size:=World.block_lt_of_cell? _ _ (h 0 (by decide) (by decide)).1
theorem Pows.fr {S:Nat->Prop} {w w' : World} (h:Pows w) (hf:Fr S w w') (hS:¬S 13):Pows w' := fun p h0 h1=>⟨hf.cell (h p h0 h1).1 hS,hf.cell (h p h0 h1).2 hS⟩
theorem Pows.below {B:Nat} {w w' : World} (h:Pows w) (hb:Below B w w') (hB:13<B):Pows w' := h.fr (Fr.of_below hb) (Nat.not_le_of_lt hB)
theorem Gc (x:Int) (h0:-1000<=x) (h1:x<=1000) (w:World):Calls Tryz.prog 134 #[.int .i64 x] w fun e w' => e=.returned (.int .i64 (lp10 x))/\w' = w:=by
 go_enter Tryz.func134,Tryz.ntmps134
 go_wp2;go_ret;exact ⟨rfl,rfl⟩
theorem log10P_any (x:Int) (h0:-3000<=x) (h1:x<=3000) (w:World):Calls Tryz.prog 96 #[.int .i64 x] w fun e w' => e=.returned (.int .i64 (Bk x))/\w' = w:=by
 go_enter Tryz.func96,Tryz.ntmps96
 go_wp2;go_ret;exact ⟨rfl,rfl⟩
theorem skewed_any (x:Int) (h0:-3000<=x) (h1:x<=3000) (w:World):Calls Tryz.prog 132 #[.int .i64 x] w fun e w' => e=.returned (.int .i64 (skewF x))/\w' = w:=by
 go_enter Tryz.func132,Tryz.ntmps132
 go_wp2;go_ret;exact ⟨rfl,rfl⟩
theorem ceil_any (u:Nat) (h:u<18446744073709551000) (w:World):Calls Tryz.prog 137 #[.int .u64 (u:Int)] w fun e w' => e=.returned (.int .u64 (((u+3) / 4:Nat):Int))/\w' = w:=by
 go_enter Tryz.func137,Tryz.ntmps137
 go_wp2;go_ret;exact ⟨rfl,rfl⟩
theorem floor_any (u:Nat) (h:u<18446744073709551000) (w:World):Calls Tryz.prog 138 #[.int .u64 (u:Int)] w fun e w' => e=.returned (.int .u64 ((u / 4:Nat):Int))/\w' = w:=by
 go_enter Tryz.func138,Tryz.ntmps138
 go_wp2;go_ret;exact ⟨by simp,rfl⟩
theorem round_any (u:Nat) (h:u<18446744073709551000) (w:World):Calls Tryz.prog 139 #[.int .u64 (u:Int)] w fun e w' => e=.returned (.int .u64 ((rndU u:Nat):Int))/\w' = w:=by
 obtain ⟨q,hq⟩:∃q,q=u / 4:=⟨_,rfl⟩;have hd:((u:Int)) / 4=(q:Int):=by omega
 obtain ⟨m,hm⟩:∃m,m=q % 2:=⟨_,rfl⟩;have hand:bits .and .u64 (q:Int) 1=(m:Int):=by
   have:=Aw (x:=q) (y:=1) (by omega) (by omega);rw [and_1,<-hm] at this;exact this
 have hr:((u:Int)+1+(m:Int)) / 4=((rndU u:Nat):Int):=by unfold rndU;omega
 have hm2:m<=1:=by omega
 generalize rndU u=r at *;clear hq hm
 go_enter Tryz.func139,Tryz.ntmps139
 go_wp2;go_ret;exact ⟨rfl,rfl⟩
theorem hi_lt {p:Int} (h0:-348<=p) (h1:p<=347):9223372036854775808<=hiT p/\hiT p<18446744073709551616:=by
 obtain ⟨_,hh⟩:=at10 hi_ok Dt h0 h1;rw [hiOk,Bool.and_eq_true,decide_eq_true_eq,decide_eq_true_eq] at hh;exact hh
set_option maxRecDepth 100000 in
set_option maxHeartbeats 1600000 in
theorem Bs {w:World} {b:Nat} {e p l:Int} {c0 c1 c2:Value} (hb:Blk w b) (h0:w.cell? ⟨b,0,none⟩=some c0) (h1:w.cell? ⟨b,1,none⟩=some c1) (h2:w.cell? ⟨b,2,none⟩=some c2) (hP:Pows w)
   (hbg:b≠13) (p0:-348<=p) (p1:p<=347) (e0:-3000<=e) (e1:e<=3000) (l0:-3000<=l) (l1:l<=3000) :
   Calls Tryz.prog 133 #[.pointer (some ⟨b,0,none⟩),.int .i64 e,.int .i64 p,.int .i64 l] w fun x w' => x=.returned (.tuple #[]) /\
     w' = ((w.setCell ⟨b,0,none⟩ (.int .u64 (hiT p:Int))).setCell ⟨b,1,none⟩ (.int .u64 (loT p:Int))).setCell ⟨b,2,none⟩ (.int .i64 (-(e+l+3))):=by
 obtain ⟨t0,t1⟩:=hP p p0 p1
 have g0:=(hi_lt p0 p1).2
 have g1:=lo_lt p
 generalize hiT p=H at *
 generalize loT p=L at *
 obtain ⟨q,hq⟩:∃q:Nat,q=(p+348).toNat:=⟨_,rfl⟩
 rw [<-hq] at t0 t1
 have hqe:p+348=(q:Int):=by omega
 have hq6:q<696:=by omega
 have z0:=hb.frz 0 none
 have z1:=hb.frz 1 none
 have z2:=hb.frz 2 none
 have hbg' : ¬(13=b):=fun h=>hbg h.symm
 clear hP hb hq
 go_enter Tryz.func133,Tryz.ntmps133
 go_wp2
 go_end0
 exact ⟨rfl,rfl⟩
inductive V where
 | mk (kind:Int) (text:ByteArray) (int:Int) (real:Nat) (flag:Bool) (list:List V)
def V.kind:V->Int | .mk k _ _ _ _ _=>k
def V.text:V->ByteArray | .mk _ t _ _ _ _=>t
def V.int:V->Int | .mk _ _ i _ _ _=>i
def V.real:V->Nat | .mk _ _ _ r _ _=>r
def V.flag:V->Bool | .mk _ _ _ _ f _=>f
def V.list:V->List V | .mk _ _ _ _ _ l=>l
mutual
def V.count:V->Nat
 | .mk _ _ _ _ _ l=>V.countL l+1
def V.countL:List V->Nat
 | []=>0
 | x :: l=>x.count+V.countL l
end
theorem V.count_pos (v:V):1<=v.count:=by cases v;simp [V.count]
theorem V.length_le (l:List V):l.length<=V.countL l:=by
 induction l with
 | nil=>simp
 | cons y l ih=>have:=y.count_pos;simp only [V.countL,List.length_cons];omega
def cells6 (k:Int) (t:ByteArray) (i:Int) (r:Nat) (f:Bool) (a:Option Addr) (n cap:Nat):List Value:=
 [.int .i64 k,.string t,.int .i64 i,.float .f64 r,.bool f,.slice a n cap]
inductive RV (c:Addr->Option Value):List Value->V->Prop
 | mk (k:Int) (t:ByteArray) (i:Int) (r:Nat) (f:Bool) (a:Option Addr) (n cap:Nat) (l:List V) (css:List (List Value))
     (hn:n=l.length) (hcs:css.length=l.length) (hr:∀(j:Nat) (x:List Value),css[j]?=some x->∃b o,a=some ⟨b,o,none⟩/\∀(q:Nat) (u:Value),x[q]?=some u->c ⟨b,o+j * 6+q,none⟩=some u)
     (hl:∀(j:Nat) (x:List Value) (y:V),css[j]?=some x->l[j]?=some y->RV c x y):RV c (cells6 k t i r f a n cap) (.mk k t i r f l)
theorem RV.out {c:Addr->Option Value} {cs:List Value} {v:V} (h:RV c cs v):∃(a:Option Addr) (cap:Nat) (css:List (List Value)),cs=cells6 v.kind v.text v.int v.real v.flag a v.list.length cap/\css.length=v.list.length /\
   (∀(j:Nat) (x:List Value),css[j]?=some x->∃b o,a=some ⟨b,o,none⟩/\∀(q:Nat) (u:Value),x[q]?=some u->c ⟨b,o+j * 6+q,none⟩=some u) /\
   ∀(j:Nat) (x:List Value) (y:V),css[j]?=some x->v.list[j]?=some y->RV c x y:=by
 cases h with
 | mk k t i r f a n cap l css hn hcs hr hl=>exact ⟨a,cap,css,by simp [V.kind,V.text,V.int,V.real,V.flag,V.list,hn],hcs,hr,hl⟩
theorem RV.intro {c:Addr->Option Value} {v:V} (a:Option Addr) (cap:Nat) (css:List (List Value)) (hcs:css.length=v.list.length)
   (hr:∀(j:Nat) (x:List Value),css[j]?=some x->∃b o,a=some ⟨b,o,none⟩/\∀(q:Nat) (u:Value),x[q]?=some u->c ⟨b,o+j * 6+q,none⟩=some u)
   (hl:∀(j:Nat) (x:List Value) (y:V),css[j]?=some x->v.list[j]?=some y->RV c x y):RV c (cells6 v.kind v.text v.int v.real v.flag a v.list.length cap) v:=by
 cases v with
 | mk k t i r f l=>exact RV.mk k t i r f a _ cap l css rfl hcs hr hl
theorem RV.mono {c c' : Addr->Option Value} {cs:List Value} {v:V} (h:RV c cs v) (hc:∀a u,c a=some u->c' a=some u):RV c' cs v:=by
 induction h with
 | mk k t i r f a n cap l css hn hcs hr hl ih=>
   exact RV.mk k t i r f a n cap l css hn hcs (fun j x hx=>let ⟨b,o,ha,hq⟩:=hr j x hx;⟨b,o,ha,fun q u hu=>hc _ _ (hq q u hu)⟩) ih
theorem RV.len {c:Addr->Option Value} {k:Int} {t:ByteArray} {i:Int} {r:Nat} {f:Bool} {a:Option Addr} {n cap:Nat} {v:V} (h:RV c (cells6 k t i r f a n cap) v) :
   k=v.kind/\t=v.text/\i=v.int/\r=v.real/\f=v.flag/\n=v.list.length:=by
 obtain ⟨a0,cap0,css,he,_⟩:=h.out
 simp only [cells6,List.cons.injEq,Value.int.injEq,Value.string.injEq,Value.float.injEq,Value.bool.injEq,Value.slice.injEq,and_true,true_and] at he
 exact ⟨he.1,he.2.1,he.2.2.1,he.2.2.2.1,he.2.2.2.2.1,he.2.2.2.2.2.2.1⟩
def off (fp:List Nat) (w:World):Addr->Option Value:=fun a=>if a.block∈fp then none else w.cell? a
theorem Br {w w' : World} (hb:Below w.heap.size w w'):∀a u,w.cell? a=some u->w'.cell? a=some u:=fun a u h=>by
 rw [hb.cell (World.block_lt_of_cell? _ _ h)];exact h
def RVs (c:Addr->Option Value) (css:List (List Value)) (l:List V):Prop:=css.length=l.length/\∀(j:Nat) (x:List Value) (y:V),css[j]?=some x->l[j]?=some y->RV c x y
theorem RVs.nil (c:Addr->Option Value):RVs c [] []:=⟨rfl,fun j x y h=>by simp at h⟩
theorem RVs.mono {c c' : Addr->Option Value} {css:List (List Value)} {l:List V} (h:RVs c css l) (hc:∀a u,c a=some u->c' a=some u):RVs c' css l:=⟨h.1,fun j x y hx hy=>(h.2 j x y hx hy).mono hc⟩
end Go.Proofs.YteoalcmhdoopnaaGreatDoor
