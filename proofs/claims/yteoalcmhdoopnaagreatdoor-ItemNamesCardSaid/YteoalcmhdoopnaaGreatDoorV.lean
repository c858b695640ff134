/- Values with values in them, as trees; how one lies in memory. No number of this program's stands here. -/
import Derived.Test.YteoalcmhdoopnaaGreatDoorBase
namespace Go.Proofs.YteoalcmhdoopnaaGreatDoor
open Go.RowKit
inductive V where
 | mk (kind:Int) (text:ByteArray) (int:Int) (real:Nat) (flag:Bool) (list:List V)
def V.kind:V->Int | .mk k _ _ _ _ _=>k
def V.text:V->ByteArray | .mk _ t _ _ _ _=>t
def V.int:V->Int | .mk _ _ i _ _ _=>i
def V.real:V->Nat | .mk _ _ _ r _ _=>r
def V.flag:V->Bool | .mk _ _ _ _ f _=>f
def V.list:V->List V | .mk _ _ _ _ _ l=>l
mutual
def V.count:V->Nat
 | .mk _ _ _ _ _ l=>V.countL l+1
def V.countL:List V->Nat
 | []=>0
 | x :: l=>x.count+V.countL l
end
theorem V.count_pos (v:V):1<=v.count:=by cases v;simp [V.count]
theorem V.length_le (l:List V):l.length<=V.countL l:=by
 induction l with
 | nil=>simp
 | cons y l ih=>have:=y.count_pos;simp only [V.countL,List.length_cons];omega
def Au (k:Int) (t:ByteArray) (i:Int) (r:Nat) (f:Bool) (a:Option Addr) (n cap:Nat):List Value:=
 [.int .i64 k,.string t,.int .i64 i,.float .f64 r,.bool f,.slice a n cap]
inductive RV (c:Addr->Option Value):List Value->V->Prop
 | mk (k:Int) (t:ByteArray) (i:Int) (r:Nat) (f:Bool) (a:Option Addr) (n cap:Nat) (l:List V) (css:List (List Value))
     (hn:n=l.length) (hcs:css.length=l.length) (hr:∀(j:Nat) (x:List Value),css[j]?=some x->∃b o,a=some ⟨b,o,none⟩/\∀(q:Nat) (u:Value),x[q]?=some u->c ⟨b,o+j * 6+q,none⟩=some u)
     (hl:∀(j:Nat) (x:List Value) (y:V),css[j]?=some x->l[j]?=some y->RV c x y):RV c (Au k t i r f a n cap) (.mk k t i r f l)
theorem RV.out {c:Addr->Option Value} {cs:List Value} {v:V} (h:RV c cs v):∃(a:Option Addr) (cap:Nat) (css:List (List Value)),cs=Au v.kind v.text v.int v.real v.flag a v.list.length cap/\css.length=v.list.length /\
   (∀(j:Nat) (x:List Value),css[j]?=some x->∃b o,a=some ⟨b,o,none⟩/\∀(q:Nat) (u:Value),x[q]?=some u->c ⟨b,o+j * 6+q,none⟩=some u) /\
   ∀(j:Nat) (x:List Value) (y:V),css[j]?=some x->v.list[j]?=some y->RV c x y:=by
 cases h with
 | mk k t i r f a n cap l css hn hcs hr hl=>exact ⟨a,cap,css,by simp [V.kind,V.text,V.int,V.real,V.flag,V.list,hn],hcs,hr,hl⟩
theorem RV.intro {c:Addr->Option Value} {v:V} (a:Option Addr) (cap:Nat) (css:List (List Value)) (hcs:css.length=v.list.length)
   (hr:∀(j:Nat) (x:List Value),css[j]?=some x->∃b o,a=some ⟨b,o,none⟩/\∀(q:Nat) (u:Value),x[q]?=some u->c ⟨b,o+j * 6+q,none⟩=some u)
   (hl:∀(j:Nat) (x:List Value) (y:V),css[j]?=some x->v.list[j]?=some y->RV c x y):RV c (Au v.kind v.text v.int v.real v.flag a v.list.length cap) v:=by
 cases v with
 | mk k t i r f l=>exact RV.mk k t i r f a _ cap l css rfl hcs hr hl
theorem RV.mono {c c' : Addr->Option Value} {cs:List Value} {v:V} (h:RV c cs v) (hc:∀a u,c a=some u->c' a=some u):RV c' cs v:=by
 induction h with
 | mk k t i r f a n cap l css hn hcs hr hl ih=>
   exact RV.mk k t i r f a n cap l css hn hcs (fun j x hx=>let ⟨b,o,ha,hq⟩:=hr j x hx;⟨b,o,ha,fun q u hu=>hc _ _ (hq q u hu)⟩) ih
theorem RV.elem {c:Addr->Option Value} {k:Int} {t:ByteArray} {i:Int} {r:Nat} {f:Bool} {a:Option Addr} {n cap:Nat} {v:V} (h:RV c (Au k t i r f a n cap) v) {j:Nat} (hj:j<n) :
   ∃(b o:Nat) (hv:j<v.list.length) (a' : Option Addr) (cap' : Nat),a=some ⟨b,o,none⟩/\RV c (Au v.list[j].kind v.list[j].text v.list[j].int v.list[j].real v.list[j].flag a' v.list[j].list.length cap') v.list[j] /\
     c ⟨b,o+j * 6,none⟩=some (.int .i64 v.list[j].kind)/\c ⟨b,o+j * 6+1,none⟩=some (.string v.list[j].text)/\c ⟨b,o+j * 6+2,none⟩=some (.int .i64 v.list[j].int)/\c ⟨b,o+j * 6+3,none⟩=some (.float .f64 v.list[j].real) /\
     c ⟨b,o+j * 6+4,none⟩=some (.bool v.list[j].flag)/\c ⟨b,o+j * 6+5,none⟩=some (.slice a' v.list[j].list.length cap'):=by
 obtain ⟨a0,cap0,css,he,hl,hr,hv⟩:=h.out
 simp only [Au,List.cons.injEq,Value.slice.injEq,and_true] at he
 obtain ⟨_,_,_,_,_,rfl,hn,rfl⟩:=he
 have hjv:j<v.list.length:=by omega
 have hjc:j<css.length:=by omega
 obtain ⟨b,o,ha,hq⟩:=hr j css[j] (by simp [hjc])
 have hx:=hv j css[j] v.list[j] (by simp [hjc]) (by simp [hjv])
 obtain ⟨a', cap', css', he', hl', hr', hv'⟩:=hx.out
 refine ⟨b,o,hjv,a', cap', ha,RV.intro a' cap' css' hl' hr' hv', ?_,?_,?_,?_,?_,?_⟩
 · have:=hq 0 (.int .i64 v.list[j].kind) (by rw [he'];rfl);simpa using this
 · exact hq 1 _ (by rw [he'];rfl)
 · exact hq 2 _ (by rw [he'];rfl)
 · exact hq 3 _ (by rw [he'];rfl)
 · exact hq 4 _ (by rw [he'];rfl)
 · exact hq 5 _ (by rw [he'];rfl)
theorem RV.len {c:Addr->Option Value} {k:Int} {t:ByteArray} {i:Int} {r:Nat} {f:Bool} {a:Option Addr} {n cap:Nat} {v:V} (h:RV c (Au k t i r f a n cap) v) :
   k=v.kind/\t=v.text/\i=v.int/\r=v.real/\f=v.flag/\n=v.list.length:=by
 obtain ⟨a0,cap0,css,he,_⟩:=h.out
 simp only [Au,List.cons.injEq,Value.int.injEq,Value.string.injEq,Value.float.injEq,Value.bool.injEq,Value.slice.injEq,and_true,true_and] at he
 exact ⟨he.1,he.2.1,he.2.2.1,he.2.2.2.1,he.2.2.2.2.1,he.2.2.2.2.2.2.1⟩
theorem Ag {w w' : World} (hb:Below w.heap.size w w'):∀a u,w.cell? a=some u->w'.cell? a=some u:=fun a u h=>by
 rw [hb.cell (World.block_lt_of_cell? _ _ h)];exact h
def RVs (c:Addr->Option Value) (css:List (List Value)) (l:List V):Prop:=css.length=l.length/\∀(j:Nat) (x:List Value) (y:V),css[j]?=some x->l[j]?=some y->RV c x y
theorem RVs.nil (c:Addr->Option Value):RVs c [] []:=⟨rfl,fun j x y h=>by simp at h⟩
theorem RVs.mono {c c' : Addr->Option Value} {css:List (List Value)} {l:List V} (h:RVs c css l) (hc:∀a u,c a=some u->c' a=some u):RVs c' css l:=⟨h.1,fun j x y hx hy=>(h.2 j x y hx hy).mono hc⟩
end Go.Proofs.YteoalcmhdoopnaaGreatDoor
