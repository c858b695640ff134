/- Values with values in them, as trees; how one lies in memory. No number of this program's stands here. -/
import Derived.Test.YtfaihaoajdcjbaaGreatDoorBase
set_option linter.all false
namespace Go.Proofs.YtfaihaoajdcjbaaGreatDoor
open Go.RowKit
inductive V where
 | mk (kind:Int) (text:ByteArray) (int:Int) (real:Nat) (flag:Bool) (list:List V)
def V.kind:V->Int | .mk k _ _ _ _ _=>k
def V.text:V->ByteArray | .mk _ t _ _ _ _=>t
def V.int:V->Int | .mk _ _ i _ _ _=>i
def V.real:V->Nat | .mk _ _ _ r _ _=>r
def V.flag:V->Bool | .mk _ _ _ _ f _=>f
def V.list:V->List V | .mk _ _ _ _ _ l=>l
mutual
def V.count:V->Nat
 | .mk _ _ _ _ _ l=>V.countL l+1
def V.countL:List V->Nat
 | []=>0
 | x :: l=>x.count+V.countL l
end
theorem V.count_pos (v:V):1<=v.count:=by cases v;simp [V.count]
theorem V.countL_append (a b:List V):V.countL (a++b)=V.countL a+V.countL b:=by
 induction a with
 | nil=>simp [V.countL]
 | cons x a ih=>simp [V.countL,ih];omega
theorem V.count_mem {l:List V} {x:V} (h:x∈l):x.count<=V.countL l:=by
 induction l with
 | nil=>cases h
 | cons y l ih=>
   simp only [V.countL];rcases List.mem_cons.1 h with rfl | h
   · omega
   · have:=ih h;omega
theorem V.length_le (l:List V):l.length<=V.countL l:=by
 induction l with
 | nil=>simp
 | cons y l ih=>have:=y.count_pos;simp only [V.countL,List.length_cons];omega
theorem V.ind {C:V->Prop} (h:∀v:V,(∀x∈v.list,C x)->C v) (v:V):C v:=by
 have key:∀(n:Nat) (v:V),v.count<=n->C v:=by
   intro n;induction n with
   | zero=>intro v hv;have:=v.count_pos;omega
   | succ n ih=>
     intro v hv;refine h v fun x hx=>ih x ?_;cases v with
     | mk k t i r f l=>
       have:=V.count_mem hx;simp only [V.count,V.list] at hv this;omega
 exact key _ v (Nat.le_refl _)
def nanB (r:Nat):Bool:=FloatKind.f64.format.order r r != some .eq
def Fu (r:Nat):Nat:=if nanB r then 9221120237041090561 else r
def Aj (k:Int) (t:ByteArray) (i:Int) (r:Nat) (f:Bool) (a:Option Addr) (n cap:Nat):List Value:=
 [.int .i64 k,.string t,.int .i64 i,.float .f64 r,.bool f,.slice a n cap]
inductive RV (c:Addr->Option Value):List Value->V->Prop
 | mk (k:Int) (t:ByteArray) (i:Int) (r:Nat) (f:Bool) (a:Option Addr) (n cap:Nat) (l:List V) (css:List (List Value))
     (hn:n=l.length) (hcs:css.length=l.length) (hr:∀(j:Nat) (x:List Value),css[j]?=some x->∃b o,a=some ⟨b,o,none⟩/\∀(q:Nat) (u:Value),x[q]?=some u->c ⟨b,o+j * 6+q,none⟩=some u)
     (hl:∀(j:Nat) (x:List Value) (y:V),css[j]?=some x->l[j]?=some y->RV c x y):RV c (Aj k t i r f a n cap) (.mk k t i r f l)
theorem RV.out {c:Addr->Option Value} {cs:List Value} {v:V} (h:RV c cs v):∃(a:Option Addr) (cap:Nat) (css:List (List Value)),cs=Aj v.kind v.text v.int v.real v.flag a v.list.length cap/\css.length=v.list.length /\
   (∀(j:Nat) (x:List Value),css[j]?=some x->∃b o,a=some ⟨b,o,none⟩/\∀(q:Nat) (u:Value),x[q]?=some u->c ⟨b,o+j * 6+q,none⟩=some u) /\
   ∀(j:Nat) (x:List Value) (y:V),css[j]?=some x->v.list[j]?=some y->RV c x y:=by
 cases h with
 | mk k t i r f a n cap l css hn hcs hr hl=>exact ⟨a,cap,css,by simp [V.kind,V.text,V.int,V.real,V.flag,V.list,hn],hcs,hr,hl⟩
theorem RV.intro {c:Addr->Option Value} {v:V} (a:Option Addr) (cap:Nat) (css:List (List Value)) (hcs:css.length=v.list.length)
   (hr:∀(j:Nat) (x:List Value),css[j]?=some x->∃b o,a=some ⟨b,o,none⟩/\∀(q:Nat) (u:Value),x[q]?=some u->c ⟨b,o+j * 6+q,none⟩=some u)
   (hl:∀(j:Nat) (x:List Value) (y:V),css[j]?=some x->v.list[j]?=some y->RV c x y):RV c (Aj v.kind v.text v.int v.real v.flag a v.list.length cap) v:=by
 cases v with
 | mk k t i r f l=>exact RV.mk k t i r f a _ cap l css rfl hcs hr hl
theorem RV.mono {c c' : Addr->Option Value} {cs:List Value} {v:V} (h:RV c cs v) (hc:∀a u,c a=some u->c' a=some u):RV c' cs v:=by
 induction h with
 | mk k t i r f a n cap l css hn hcs hr hl ih=>
   exact RV.mk k t i r f a n cap l css hn hcs (fun j x hx=>let ⟨b,o,ha,hq⟩:=hr j x hx;⟨b,o,ha,fun q u hu=>hc _ _ (hq q u hu)⟩) ih
theorem RV.len6 {c:Addr->Option Value} {cs:List Value} {v:V} (h:RV c cs v):cs.length=6:=by
 obtain ⟨a,cap,css,rfl,_⟩:=h.out;rfl
theorem RV.leaf (c:Addr->Option Value) (k:Int) (t:ByteArray) (i:Int) (r:Nat) (f:Bool) (a:Option Addr) (cap:Nat):RV c (Aj k t i r f a 0 cap) (.mk k t i r f []):=
 RV.mk k t i r f a 0 cap [] [] rfl rfl (fun j x hx=>by simp at hx) (fun j x y hx=>by simp at hx)
theorem RV.elem {c:Addr->Option Value} {k:Int} {t:ByteArray} {i:Int} {r:Nat} {f:Bool} {a:Option Addr} {n cap:Nat} {v:V} (h:RV c (Aj k t i r f a n cap) v) {j:Nat} (hj:j<n) :
   ∃(b o:Nat) (hv:j<v.list.length) (a' : Option Addr) (cap' : Nat),a=some ⟨b,o,none⟩/\RV c (Aj v.list[j].kind v.list[j].text v.list[j].int v.list[j].real v.list[j].flag a' v.list[j].list.length cap') v.list[j] /\
     c ⟨b,o+j * 6,none⟩=some (.int .i64 v.list[j].kind)/\c ⟨b,o+j * 6+1,none⟩=some (.string v.list[j].text)/\c ⟨b,o+j * 6+2,none⟩=some (.int .i64 v.list[j].int)/\c ⟨b,o+j * 6+3,none⟩=some (.float .f64 v.list[j].real) /\
     c ⟨b,o+j * 6+4,none⟩=some (.bool v.list[j].flag)/\c ⟨b,o+j * 6+5,none⟩=some (.slice a' v.list[j].list.length cap'):=by
 obtain ⟨a0,cap0,css,he,hl,hr,hv⟩:=h.out;simp only [Aj,List.cons.injEq,Value.slice.injEq,and_true] at he;obtain ⟨_,_,_,_,_,rfl,hn,rfl⟩:=he;have hjv:j<v.list.length:=by omega
 have hjc:j<css.length:=by omega
 obtain ⟨b,o,ha,hq⟩:=hr j css[j] (by simp [hjc]);have hx:=hv j css[j] v.list[j] (by simp [hjc]) (by simp [hjv]);obtain ⟨a', cap', css', he', hl', hr', hv'⟩:=hx.out;refine ⟨b,o,hjv,a', cap', ha,RV.intro a' cap' css' hl' hr' hv', ?_,?_,?_,?_,?_,?_⟩
 · have:=hq 0 (.int .i64 v.list[j].kind) (by rw [he'];rfl);simpa using this
 · exact hq 1 _ (by rw [he'];rfl)
 · exact hq 2 _ (by rw [he'];rfl)
 · exact hq 3 _ (by rw [he'];rfl)
 · exact hq 4 _ (by rw [he'];rfl)
 · exact hq 5 _ (by rw [he'];rfl)
theorem RV.len {c:Addr->Option Value} {k:Int} {t:ByteArray} {i:Int} {r:Nat} {f:Bool} {a:Option Addr} {n cap:Nat} {v:V} (h:RV c (Aj k t i r f a n cap) v) :
   k=v.kind/\t=v.text/\i=v.int/\r=v.real/\f=v.flag/\n=v.list.length:=by
 obtain ⟨a0,cap0,css,he,_⟩:=h.out;simp only [Aj,List.cons.injEq,Value.int.injEq,Value.string.injEq,Value.float.injEq,Value.bool.injEq,Value.slice.injEq,and_true,true_and] at he;exact ⟨he.1,he.2.1,he.2.2.1,he.2.2.2.1,he.2.2.2.2.1,he.2.2.2.2.2.2.1⟩
def off (fp:List Nat) (w:World):Addr->Option Value:=fun a=>if a.block∈fp then none else w.cell? a
def Ar (B:Nat) (w:World):Addr->Option Value:=fun a=>if a.block<B then none else w.cell? a
theorem D4 {fp:List Nat} {w:World} {a:Addr} {u:Value} (h:off fp w a=some u):w.cell? a=some u/\a.block ∉ fp:=by
 unfold off at h;split at h
 · cases h
 · exact ⟨h,‹_›⟩
theorem A4 {B:Nat} {w:World} {a:Addr} {u:Value} (h:Ar B w a=some u):w.cell? a=some u/\B<=a.block:=by
 unfold Ar at h;split at h
 · cases h
 · exact ⟨h,by omega⟩
theorem off_fr {fp fp' : List Nat} {w w' : World} (hf:Fr (·∈fp) w w') (hn:∀b∈fp', b∈fp\/w.heap.size<=b):∀a u,off fp w a=some u->off fp' w' a=some u:=by
 intro a u h;obtain ⟨h1,h2⟩:=D4 h;have hlt:=World.block_lt_of_cell? _ _ h1;unfold off;rw [if_neg (fun hm=>by rcases hn _ hm with h | h;exact h2 h;omega)]
 exact hf.cell h1 h2
theorem off_below {fp:List Nat} {w w' : World} (hb:Below w.heap.size w w'):∀a u,off fp w a=some u->off fp w' a=some u:=by
 intro a u h;obtain ⟨h1,h2⟩:=D4 h;unfold off;rw [if_neg h2,hb.cell (World.block_lt_of_cell? _ _ h1)];exact h1
theorem newer_off {B:Nat} {fp:List Nat} {w:World} (h:∀b∈fp,b<B):∀a u,Ar B w a=some u->off fp w a=some u:=by
 intro a u hu;obtain ⟨h1,h2⟩:=A4 hu;unfold off;rw [if_neg (fun hm=>by have:=h _ hm;omega)];exact h1
theorem newer_below {B:Nat} {w w' : World} (hb:Below w.heap.size w w'):∀a u,Ar B w a=some u->Ar B w' a=some u:=by
 intro a u hu;obtain ⟨h1,h2⟩:=A4 hu;unfold Ar;rw [if_neg (by omega),hb.cell (World.block_lt_of_cell? _ _ h1)];exact h1
theorem off_all {fp:List Nat} {w:World}:∀a u,off fp w a=some u->w.cell? a=some u:=fun a u h=>(D4 h).1
theorem Aa {w w' : World} (hb:Below w.heap.size w w'):∀a u,w.cell? a=some u->w'.cell? a=some u:=fun a u h=>by
 rw [hb.cell (World.block_lt_of_cell? _ _ h)];exact h
def nf (B:Nat) (own:Option Nat) (w:World):Addr->Option Value:=fun a=>if a.block<B\/own=some a.block then none else w.cell? a
theorem Ew {B:Nat} {own:Option Nat} {w:World} {a:Addr} {u:Value} (h:nf B own w a=some u):w.cell? a=some u/\B<=a.block/\own≠some a.block:=by
 unfold nf at h;split at h
 · cases h
 · rename_i hn;exact ⟨h,by omega,fun e=>hn (Or.inr e)⟩
theorem nf_mk {B:Nat} {own:Option Nat} {w:World} {a:Addr} {u:Value} (h:w.cell? a=some u) (h1:B<=a.block) (h2:own≠some a.block):nf B own w a=some u:=by
 unfold nf;rw [if_neg (fun hn=>by rcases hn with hn | hn;omega;exact h2 hn)];exact h
theorem nf_below {B:Nat} {own:Option Nat} {w w' : World} (hb:Below w.heap.size w w'):∀a u,nf B own w a=some u->nf B own w' a=some u:=fun a u h=>
 let ⟨h1,h2,h3⟩:=Ew h;nf_mk (Aa hb _ _ h1) h2 h3
theorem Fq {B:Nat} {v v' : Value} {w w' : World} (hf:Fr (fun k=>v.ownBlock=some k) w w') (hn:∀k,v'.ownBlock=some k->v.ownBlock=some k\/w.heap.size<=k):∀a u,nf B v.ownBlock w a=some u->nf B v'.ownBlock w' a=some u:=fun a u h=>by
 obtain ⟨h1,h2,h3⟩:=Ew h;refine nf_mk (hf.cell h1 h3) h2 (fun e=>?_);rcases hn _ e with h | h
 · exact h3 h
 · have:=World.block_lt_of_cell? _ _ h1;omega
theorem Er {B B' : Nat} {own:Option Nat} {w:World} (hB:B<=B') (ho:∀k,own=some k->k<B'):∀a u,Ar B' w a=some u->nf B own w a=some u:=fun a u h=>by
 obtain ⟨h1,h2⟩:=A4 h;exact nf_mk h1 (by omega) (fun e=>by have:=ho _ e;omega)
theorem nf_newer {B:Nat} {own:Option Nat} {w:World}:∀a u,nf B own w a=some u->Ar B w a=some u:=fun a u h=>by
 obtain ⟨h1,h2,_⟩:=Ew h;unfold Ar;rw [if_neg (by omega)];exact h1
theorem flat_at {size:Nat}:∀{css:List (List Value)},(∀x∈css,x.length=size)->∀(j:Nat) (x:List Value),css[j]?=some x->∀(q:Nat) (u:Value),x[q]?=some u->css.flatten[j * size+q]?=some u
 | [],_,j,x,h=>by simp at h
 | y :: css,hl,j,x,h=>by
   intro q u hu;have hy:=hl y (by simp);cases j with
   | zero=>
     simp at h;subst h;rw [List.flatten_cons,List.getElem?_append_left (by have:=(List.getElem?_eq_some_iff.1 hu).1;omega)];simpa using hu
   | succ j=>
     have:=flat_at (fun z hz=>hl z (List.mem_cons_of_mem _ hz)) j x (by simpa using h) q u hu;rw [List.flatten_cons,List.getElem?_append_right (by rw [hy,Nat.succ_mul];omega),hy,show (j+1) * size+q - size=j * size+q by rw [Nat.succ_mul];omega];exact this
theorem flat_len {size:Nat} {css:List (List Value)} (h:∀x∈css,x.length=size):css.flatten.length=css.length * size:=by
 induction css with
 | nil=>simp
 | cons x css ih=>
   rw [List.flatten_cons,List.length_append,h x (by simp),ih (fun y hy=>h y (List.mem_cons_of_mem _ hy)),List.length_cons,Nat.succ_mul];omega
def RVs (c:Addr->Option Value) (css:List (List Value)) (l:List V):Prop:=css.length=l.length/\∀(j:Nat) (x:List Value) (y:V),css[j]?=some x->l[j]?=some y->RV c x y
theorem RVs.nil (c:Addr->Option Value):RVs c [] []:=⟨rfl,fun j x y h=>by simp at h⟩
theorem RVs.mono {c c' : Addr->Option Value} {css:List (List Value)} {l:List V} (h:RVs c css l) (hc:∀a u,c a=some u->c' a=some u):RVs c' css l:=⟨h.1,fun j x y hx hy=>(h.2 j x y hx hy).mono hc⟩
theorem RVs.len6 {c:Addr->Option Value} {css:List (List Value)} {l:List V} (h:RVs c css l):∀x∈css,x.length=6:=by
 intro x hx;obtain ⟨j,hj,rfl⟩:=List.getElem_of_mem hx;have hj' : j<l.length:=h.1 ▸ hj;exact (h.2 j css[j] l[j] (by simp [hj]) (by simp [hj'])).len6
theorem RVs.snoc {c:Addr->Option Value} {css:List (List Value)} {l:List V} {x:List Value} {y:V} (h:RVs c css l) (hx:RV c x y):RVs c (css++[x]) (l++[y]):=by
 refine ⟨by simp [h.1],fun j x' y' h1 h2=>?_⟩;have hl:=h.1;by_cases hj:j<css.length
 · rw [List.getElem?_append_left hj] at h1
   rw [List.getElem?_append_left (by omega)] at h2;exact h.2 j x' y' h1 h2
 · rw [List.getElem?_append_right (by omega)] at h1 h2
   have e1:j - css.length=0:=by
     rcases Nat.eq_zero_or_pos (j - css.length) with e | e
     · exact e
     · rw [List.getElem?_eq_none (by simp;omega)] at h1;cases h1
   rw [e1] at h1;rw [show j - l.length=0 by omega] at h2;simp at h1 h2;subst h1;subst h2;exact hx
theorem RV.of_row {B:Nat} {w:World} {v:V} {e:TypeId} {a:Option Addr} {n cap:Nat} {css:List (List Value)} (hn:n=v.list.length) (hown:w.ownsRow B e 6 (.slice a n cap) n css.flatten) (hr:RVs (Ar B w) css v.list) :
   RV (Ar B w) (Aj v.kind v.text v.int v.real v.flag a n cap) v:=by
 subst hn;refine RV.intro a cap css hr.1 (fun j x hx=>?_) hr.2;have h6:=hr.len6;have hx6:x.length=6:=h6 x (List.mem_of_getElem? hx);have hR:=Reads.of_owns hown;obtain ⟨b,o,ha,hc⟩:=hR.at (j:=j * 6) (by rw [flat_len h6];have:=(List.getElem?_eq_some_iff.1 hx).1;omega);refine ⟨b,o,ha,fun q u hu=>?_⟩;have h1:=hc _ _ (flat_at h6 j x hx q u hu);have h2:=Am hown b (by rw [ha];rfl);unfold Ar;rw [if_neg (by have:=h2.1;simp;omega),show o+j * 6+q=o+(j * 6+q) by omega];exact h1
theorem RV.elem' {c:Addr->Option Value} {a:Option Addr} {n cap:Nat} {v:V} (h:RV c (Aj v.kind v.text v.int v.real v.flag a n cap) v) {j:Nat} (hj:j<n) :
   ∃(x:V) (b o:Nat) (a' : Option Addr) (cap' : Nat),v.list[j]?=some x/\x∈v.list/\a=some ⟨b,o,none⟩/\RV c (Aj x.kind x.text x.int x.real x.flag a' x.list.length cap') x /\
     c ⟨b,o+j * 6,none⟩=some (.int .i64 x.kind)/\c ⟨b,o+j * 6+1,none⟩=some (.string x.text)/\c ⟨b,o+j * 6+2,none⟩=some (.int .i64 x.int)/\c ⟨b,o+j * 6+3,none⟩=some (.float .f64 x.real) /\
     c ⟨b,o+j * 6+4,none⟩=some (.bool x.flag)/\c ⟨b,o+j * 6+5,none⟩=some (.slice a' x.list.length cap'):=by
 obtain ⟨b,o,hv,a', cap', h1,h2,h3⟩:=h.elem hj;exact ⟨v.list[j],b,o,a', cap', by simp [hv],List.getElem_mem hv,h1,h2,h3⟩
theorem V.count_list_lt (v:V):V.countL v.list<v.count:=by cases v;simp only [V.count,V.list];omega
end Go.Proofs.YtfaihaoajdcjbaaGreatDoor
