/- Values with values in them, as trees; how one lies in memory. No number of this program's stands here. -/
import Derived.Test.YtfaihaoajdcjbaaGreatDoorBase
import Derived.Test.YtfaihaoajdcjbaaGreatDoorProg
import Derived.Deep.LoopGhost
import Derived.Deep.QuietTactic
import Derived.BigQuiet
import Derived.Deep.DeepCutAuto
import Derived.Deep.RegionHeld3
import Derived.Deep.CutBlock
set_option linter.all false
namespace Go.Proofs.YtfaihaoajdcjbaaGreatDoor
open Go.RowKit
inductive V where
 | mk (kind:Int) (text:ByteArray) (int:Int) (real:Nat) (flag:Bool) (list:List V)
def V.kind:V->Int | .mk k _ _ _ _ _=>k
def V.text:V->ByteArray | .mk _ t _ _ _ _=>t
def V.int:V->Int | .mk _ _ i _ _ _=>i
def V.real:V->Nat | .mk _ _ _ r _ _=>r
def V.flag:V->Bool | .mk _ _ _ _ f _=>f
def V.list:V->List V | .mk _ _ _ _ _ l=>l
mutual
def V.count:V->Nat
 | .mk _ _ _ _ _ l=>V.countL l+1
def V.countL:List V->Nat
 | []=>0
 | x :: l=>x.count+V.countL l
end
theorem V.count_pos (v:V):1<=v.count:=by cases v;simp [V.count]
theorem V.countL_append (a b:List V):V.countL (a++b)=V.countL a+V.countL b:=by
 induction a with
 | nil=>simp [V.countL]
 | cons x a ih=>simp [V.countL,ih];omega
theorem V.count_mem {l:List V} {x:V} (h:x∈l):x.count<=V.countL l:=by
 induction l with
 | nil=>cases h
 | cons y l ih=>
   simp only [V.countL];rcases List.mem_cons.1 h with rfl | h
   · omega
   · have:=ih h;omega
theorem V.length_le (l:List V):l.length<=V.countL l:=by
 induction l with
 | nil=>simp
 | cons y l ih=>have:=y.count_pos;simp only [V.countL,List.length_cons];omega
theorem V.ind {C:V->Prop} (h:∀v:V,(∀x∈v.list,C x)->C v) (v:V):C v:=by
 have key:∀(n:Nat) (v:V),v.count<=n->C v:=by
   intro n;induction n with
   | zero=>intro v hv;have:=v.count_pos;omega
   | succ n ih=>
     intro v hv;refine h v fun x hx=>ih x ?_;cases v with
     | mk k t i r f l=>
       have:=V.count_mem hx;simp only [V.count,V.list] at hv this;omega
 exact key _ v (Nat.le_refl _)
def nanB (r:Nat):Bool:=FloatKind.f64.format.order r r != some .eq
def bitsN (r:Nat):Nat:=if nanB r then 9221120237041090561 else r
def Aj (k:Int) (t:ByteArray) (i:Int) (r:Nat) (f:Bool) (a:Option Addr) (n cap:Nat):List Value:=
 [.int .i64 k,.string t,.int .i64 i,.float .f64 r,.bool f,.slice a n cap]
inductive RV (c:Addr->Option Value):List Value->V->Prop
 | mk (k:Int) (t:ByteArray) (i:Int) (r:Nat) (f:Bool) (a:Option Addr) (n cap:Nat) (l:List V) (css:List (List Value))
     (hn:n=l.length) (hcs:css.length=l.length) (hr:∀(j:Nat) (x:List Value),css[j]?=some x->∃b o,a=some ⟨b,o,none⟩/\∀(q:Nat) (u:Value),x[q]?=some u->c ⟨b,o+j * 6+q,none⟩=some u)
     (hl:∀(j:Nat) (x:List Value) (y:V),css[j]?=some x->l[j]?=some y->RV c x y):RV c (Aj k t i r f a n cap) (.mk k t i r f l)
theorem RV.out {c:Addr->Option Value} {cs:List Value} {v:V} (h:RV c cs v):∃(a:Option Addr) (cap:Nat) (css:List (List Value)),cs=Aj v.kind v.text v.int v.real v.flag a v.list.length cap/\css.length=v.list.length /\
   (∀(j:Nat) (x:List Value),css[j]?=some x->∃b o,a=some ⟨b,o,none⟩/\∀(q:Nat) (u:Value),x[q]?=some u->c ⟨b,o+j * 6+q,none⟩=some u) /\
   ∀(j:Nat) (x:List Value) (y:V),css[j]?=some x->v.list[j]?=some y->RV c x y:=by
 cases h with
 | mk k t i r f a n cap l css hn hcs hr hl=>exact ⟨a,cap,css,by simp [V.kind,V.text,V.int,V.real,V.flag,V.list,hn],hcs,hr,hl⟩
theorem RV.intro {c:Addr->Option Value} {v:V} (a:Option Addr) (cap:Nat) (css:List (List Value)) (hcs:css.length=v.list.length)
   (hr:∀(j:Nat) (x:List Value),css[j]?=some x->∃b o,a=some ⟨b,o,none⟩/\∀(q:Nat) (u:Value),x[q]?=some u->c ⟨b,o+j * 6+q,none⟩=some u)
   (hl:∀(j:Nat) (x:List Value) (y:V),css[j]?=some x->v.list[j]?=some y->RV c x y):RV c (Aj v.kind v.text v.int v.real v.flag a v.list.length cap) v:=by
 cases v with
 | mk k t i r f l=>exact RV.mk k t i r f a _ cap l css rfl hcs hr hl
theorem RV.mono {c c' : Addr->Option Value} {cs:List Value} {v:V} (h:RV c cs v) (hc:∀a u,c a=some u->c' a=some u):RV c' cs v:=by
 induction h with
 | mk k t i r f a n cap l css hn hcs hr hl ih=>
   exact RV.mk k t i r f a n cap l css hn hcs (fun j x hx=>let ⟨b,o,ha,hq⟩:=hr j x hx;⟨b,o,ha,fun q u hu=>hc _ _ (hq q u hu)⟩) ih
theorem RV.len6 {c:Addr->Option Value} {cs:List Value} {v:V} (h:RV c cs v):cs.length=6:=by
 obtain ⟨a,cap,css,rfl,_⟩:=h.out;rfl
theorem RV.leaf (c:Addr->Option Value) (k:Int) (t:ByteArray) (i:Int) (r:Nat) (f:Bool) (a:Option Addr) (cap:Nat):RV c (Aj k t i r f a 0 cap) (.mk k t i r f []):=
 RV.mk k t i r f a 0 cap [] [] rfl rfl (fun j x hx=>by simp at hx) (fun j x y hx=>by simp at hx)
theorem RV.elem {c:Addr->Option Value} {k:Int} {t:ByteArray} {i:Int} {r:Nat} {f:Bool} {a:Option Addr} {n cap:Nat} {v:V} (h:RV c (Aj k t i r f a n cap) v) {j:Nat} (hj:j<n) :
   ∃(b o:Nat) (hv:j<v.list.length) (a' : Option Addr) (cap' : Nat),a=some ⟨b,o,none⟩/\RV c (Aj v.list[j].kind v.list[j].text v.list[j].int v.list[j].real v.list[j].flag a' v.list[j].list.length cap') v.list[j] /\
     c ⟨b,o+j * 6,none⟩=some (.int .i64 v.list[j].kind)/\c ⟨b,o+j * 6+1,none⟩=some (.string v.list[j].text)/\c ⟨b,o+j * 6+2,none⟩=some (.int .i64 v.list[j].int)/\c ⟨b,o+j * 6+3,none⟩=some (.float .f64 v.list[j].real) /\
     c ⟨b,o+j * 6+4,none⟩=some (.bool v.list[j].flag)/\c ⟨b,o+j * 6+5,none⟩=some (.slice a' v.list[j].list.length cap'):=by
 obtain ⟨a0,cap0,css,he,hl,hr,hv⟩:=h.out;simp only [Aj,List.cons.injEq,Value.slice.injEq,and_true] at he;obtain ⟨_,_,_,_,_,rfl,hn,rfl⟩:=he;have hjv:j<v.list.length:=by omega
 have hjc:j<css.length:=by omega
 obtain ⟨b,o,ha,hq⟩:=hr j css[j] (by simp [hjc]);have hx:=hv j css[j] v.list[j] (by simp [hjc]) (by simp [hjv]);obtain ⟨a', cap', css', he', hl', hr', hv'⟩:=hx.out;refine ⟨b,o,hjv,a', cap', ha,RV.intro a' cap' css' hl' hr' hv', ?_,?_,?_,?_,?_,?_⟩
 · have:=hq 0 (.int .i64 v.list[j].kind) (by rw [he'];rfl);simpa using this
 · exact hq 1 _ (by rw [he'];rfl)
 · exact hq 2 _ (by rw [he'];rfl)
 · exact hq 3 _ (by rw [he'];rfl)
 · exact hq 4 _ (by rw [he'];rfl)
 · exact hq 5 _ (by rw [he'];rfl)
theorem RV.len {c:Addr->Option Value} {k:Int} {t:ByteArray} {i:Int} {r:Nat} {f:Bool} {a:Option Addr} {n cap:Nat} {v:V} (h:RV c (Aj k t i r f a n cap) v) :
   k=v.kind/\t=v.text/\i=v.int/\r=v.real/\f=v.flag/\n=v.list.length:=by
 obtain ⟨a0,cap0,css,he,_⟩:=h.out;simp only [Aj,List.cons.injEq,Value.int.injEq,Value.string.injEq,Value.float.injEq,Value.bool.injEq,Value.slice.injEq,and_true,true_and] at he;exact ⟨he.1,he.2.1,he.2.2.1,he.2.2.2.1,he.2.2.2.2.1,he.2.2.2.2.2.2.1⟩
def off (fp:List Nat) (w:World):Addr->Option Value:=fun a=>if a.block∈fp then none else w.cell? a
def Aq (B:Nat) (w:World):Addr->Option Value:=fun a=>if a.block<B then none else w.cell? a
theorem D3 {fp:List Nat} {w:World} {a:Addr} {u:Value} (h:off fp w a=some u):w.cell? a=some u/\a.block ∉ fp:=by
 unfold off at h;split at h
 · cases h
 · exact ⟨h,‹_›⟩
theorem A5 {B:Nat} {w:World} {a:Addr} {u:Value} (h:Aq B w a=some u):w.cell? a=some u/\B<=a.block:=by
 unfold Aq at h;split at h
 · cases h
 · exact ⟨h,by omega⟩
theorem off_fr {fp fp' : List Nat} {w w' : World} (hf:Fr (·∈fp) w w') (hn:∀b∈fp', b∈fp\/w.heap.size<=b):∀a u,off fp w a=some u->off fp' w' a=some u:=by
 intro a u h;obtain ⟨h1,h2⟩:=D3 h;have hlt:=World.block_lt_of_cell? _ _ h1;unfold off;rw [if_neg (fun hm=>by rcases hn _ hm with h | h;exact h2 h;omega)]
 exact hf.cell h1 h2
theorem off_below {fp:List Nat} {w w' : World} (hb:Below w.heap.size w w'):∀a u,off fp w a=some u->off fp w' a=some u:=by
 intro a u h;obtain ⟨h1,h2⟩:=D3 h;unfold off;rw [if_neg h2,hb.cell (World.block_lt_of_cell? _ _ h1)];exact h1
theorem newer_off {B:Nat} {fp:List Nat} {w:World} (h:∀b∈fp,b<B):∀a u,Aq B w a=some u->off fp w a=some u:=by
 intro a u hu;obtain ⟨h1,h2⟩:=A5 hu;unfold off;rw [if_neg (fun hm=>by have:=h _ hm;omega)];exact h1
theorem newer_below {B:Nat} {w w' : World} (hb:Below w.heap.size w w'):∀a u,Aq B w a=some u->Aq B w' a=some u:=by
 intro a u hu;obtain ⟨h1,h2⟩:=A5 hu;unfold Aq;rw [if_neg (by omega),hb.cell (World.block_lt_of_cell? _ _ h1)];exact h1
theorem off_all {fp:List Nat} {w:World}:∀a u,off fp w a=some u->w.cell? a=some u:=fun a u h=>(D3 h).1
theorem Aa {w w' : World} (hb:Below w.heap.size w w'):∀a u,w.cell? a=some u->w'.cell? a=some u:=fun a u h=>by
 rw [hb.cell (World.block_lt_of_cell? _ _ h)];exact h
def nf (B:Nat) (own:Option Nat) (w:World):Addr->Option Value:=fun a=>if a.block<B\/own=some a.block then none else w.cell? a
theorem E2 {B:Nat} {own:Option Nat} {w:World} {a:Addr} {u:Value} (h:nf B own w a=some u):w.cell? a=some u/\B<=a.block/\own≠some a.block:=by
 unfold nf at h;split at h
 · cases h
 · rename_i hn;exact ⟨h,by omega,fun e=>hn (Or.inr e)⟩
theorem nf_mk {B:Nat} {own:Option Nat} {w:World} {a:Addr} {u:Value} (h:w.cell? a=some u) (h1:B<=a.block) (h2:own≠some a.block):nf B own w a=some u:=by
 unfold nf;rw [if_neg (fun hn=>by rcases hn with hn | hn;omega;exact h2 hn)];exact h
theorem nf_below {B:Nat} {own:Option Nat} {w w' : World} (hb:Below w.heap.size w w'):∀a u,nf B own w a=some u->nf B own w' a=some u:=fun a u h=>
 let ⟨h1,h2,h3⟩:=E2 h;nf_mk (Aa hb _ _ h1) h2 h3
theorem Gh {B:Nat} {v v' : Value} {w w' : World} (hf:Fr (fun k=>v.ownBlock=some k) w w') (hn:∀k,v'.ownBlock=some k->v.ownBlock=some k\/w.heap.size<=k):∀a u,nf B v.ownBlock w a=some u->nf B v'.ownBlock w' a=some u:=fun a u h=>by
 obtain ⟨h1,h2,h3⟩:=E2 h;refine nf_mk (hf.cell h1 h3) h2 (fun e=>?_);rcases hn _ e with h | h
 · exact h3 h
 · have:=World.block_lt_of_cell? _ _ h1;omega
theorem Ew {B B' : Nat} {own:Option Nat} {w:World} (hB:B<=B') (ho:∀k,own=some k->k<B'):∀a u,Aq B' w a=some u->nf B own w a=some u:=fun a u h=>by
 obtain ⟨h1,h2⟩:=A5 h;exact nf_mk h1 (by omega) (fun e=>by have:=ho _ e;omega)
theorem nf_newer {B:Nat} {own:Option Nat} {w:World}:∀a u,nf B own w a=some u->Aq B w a=some u:=fun a u h=>by
 obtain ⟨h1,h2,_⟩:=E2 h;unfold Aq;rw [if_neg (by omega)];exact h1
theorem flat_at {size:Nat}:∀{css:List (List Value)},(∀x∈css,x.length=size)->∀(j:Nat) (x:List Value),css[j]?=some x->∀(q:Nat) (u:Value),x[q]?=some u->css.flatten[j * size+q]?=some u
 | [],_,j,x,h=>by simp at h
 | y :: css,hl,j,x,h=>by
   intro q u hu;have hy:=hl y (by simp);cases j with
   | zero=>
     simp at h;subst h;rw [List.flatten_cons,List.getElem?_append_left (by have:=(List.getElem?_eq_some_iff.1 hu).1;omega)];simpa using hu
   | succ j=>
     have:=flat_at (fun z hz=>hl z (List.mem_cons_of_mem _ hz)) j x (by simpa using h) q u hu;rw [List.flatten_cons,List.getElem?_append_right (by rw [hy,Nat.succ_mul];omega),hy,show (j+1) * size+q - size=j * size+q by rw [Nat.succ_mul];omega];exact this
theorem flat_len {size:Nat} {css:List (List Value)} (h:∀x∈css,x.length=size):css.flatten.length=css.length * size:=by
 induction css with
 | nil=>simp
 | cons x css ih=>
   rw [List.flatten_cons,List.length_append,h x (by simp),ih (fun y hy=>h y (List.mem_cons_of_mem _ hy)),List.length_cons,Nat.succ_mul];omega
def RVs (c:Addr->Option Value) (css:List (List Value)) (l:List V):Prop:=css.length=l.length/\∀(j:Nat) (x:List Value) (y:V),css[j]?=some x->l[j]?=some y->RV c x y
theorem RVs.nil (c:Addr->Option Value):RVs c [] []:=⟨rfl,fun j x y h=>by simp at h⟩
theorem RVs.mono {c c' : Addr->Option Value} {css:List (List Value)} {l:List V} (h:RVs c css l) (hc:∀a u,c a=some u->c' a=some u):RVs c' css l:=⟨h.1,fun j x y hx hy=>(h.2 j x y hx hy).mono hc⟩
theorem RVs.len6 {c:Addr->Option Value} {css:List (List Value)} {l:List V} (h:RVs c css l):∀x∈css,x.length=6:=by
 intro x hx;obtain ⟨j,hj,rfl⟩:=List.getElem_of_mem hx;have hj' : j<l.length:=h.1 ▸ hj;exact (h.2 j css[j] l[j] (by simp [hj]) (by simp [hj'])).len6
theorem RVs.snoc {c:Addr->Option Value} {css:List (List Value)} {l:List V} {x:List Value} {y:V} (h:RVs c css l) (hx:RV c x y):RVs c (css++[x]) (l++[y]):=by
 refine ⟨by simp [h.1],fun j x' y' h1 h2=>?_⟩;have hl:=h.1;by_cases hj:j<css.length
 · rw [List.getElem?_append_left hj] at h1
   rw [List.getElem?_append_left (by omega)] at h2;exact h.2 j x' y' h1 h2
 · rw [List.getElem?_append_right (by omega)] at h1 h2
   have e1:j - css.length=0:=by
     rcases Nat.eq_zero_or_pos (j - css.length) with e | e
     · exact e
     · rw [List.getElem?_eq_none (by simp;omega)] at h1;cases h1
   rw [e1] at h1;rw [show j - l.length=0 by omega] at h2;simp at h1 h2;subst h1;subst h2;exact hx
theorem RV.of_row {B:Nat} {w:World} {v:V} {e:TypeId} {a:Option Addr} {n cap:Nat} {css:List (List Value)} (hn:n=v.list.length) (hown:w.ownsRow B e 6 (.slice a n cap) n css.flatten) (hr:RVs (Aq B w) css v.list) :
   RV (Aq B w) (Aj v.kind v.text v.int v.real v.flag a n cap) v:=by
 subst hn;refine RV.intro a cap css hr.1 (fun j x hx=>?_) hr.2;have h6:=hr.len6;have hx6:x.length=6:=h6 x (List.mem_of_getElem? hx);have hR:=Reads.of_owns hown;obtain ⟨b,o,ha,hc⟩:=hR.at (j:=j * 6) (by rw [flat_len h6];have:=(List.getElem?_eq_some_iff.1 hx).1;omega);refine ⟨b,o,ha,fun q u hu=>?_⟩;have h1:=hc _ _ (flat_at h6 j x hx q u hu);have h2:=An hown b (by rw [ha];rfl);unfold Aq;rw [if_neg (by have:=h2.1;simp;omega),show o+j * 6+q=o+(j * 6+q) by omega];exact h1
theorem RV.elem' {c:Addr->Option Value} {a:Option Addr} {n cap:Nat} {v:V} (h:RV c (Aj v.kind v.text v.int v.real v.flag a n cap) v) {j:Nat} (hj:j<n) :
   ∃(x:V) (b o:Nat) (a' : Option Addr) (cap' : Nat),v.list[j]?=some x/\x∈v.list/\a=some ⟨b,o,none⟩/\RV c (Aj x.kind x.text x.int x.real x.flag a' x.list.length cap') x /\
     c ⟨b,o+j * 6,none⟩=some (.int .i64 x.kind)/\c ⟨b,o+j * 6+1,none⟩=some (.string x.text)/\c ⟨b,o+j * 6+2,none⟩=some (.int .i64 x.int)/\c ⟨b,o+j * 6+3,none⟩=some (.float .f64 x.real) /\
     c ⟨b,o+j * 6+4,none⟩=some (.bool x.flag)/\c ⟨b,o+j * 6+5,none⟩=some (.slice a' x.list.length cap'):=by
 obtain ⟨b,o,hv,a', cap', h1,h2,h3⟩:=h.elem hj;exact ⟨v.list[j],b,o,a', cap', by simp [hv],List.getElem_mem hv,h1,h2,h3⟩
theorem V.count_list_lt (v:V):V.countL v.list<v.count:=by cases v;simp only [V.count,V.list];omega
theorem eVal:Elem Tryz.prog 38 40 6 72:=C1 Tryz.underlying38 (by decide) (by decide) (by kernel_rfl)
theorem Ai:(Tryz.prog.info? 40).map (·.size)=some 6:=by kernel_rfl
theorem one6 (k:Int) (t:ByteArray) (i:Int) (r:Nat) (f:Bool) (a:Option Addr) (n cap:Nat):(#[Value.int .i64 k,.string t,.int .i64 i,.float .f64 r,.bool f,.slice a n cap]:Array Value).all (·.oneCell')=true:=by
 simp [Value.oneCell']
theorem Cq (k:Int) (t:ByteArray) (i:Int) (r:Nat) (f:Bool) (a:Option Addr) (n cap:Nat) :
   (Aj k t i r f a n cap).toArray=#[.int .i64 k,.string t,.int .i64 i,.float .f64 r,.bool f,.slice a n cap]:=rfl
theorem owns_blk {w:World} {B e size k n c:Nat} {ad:Addr} {xs:List Value} (h:w.ownsRow B e size (.slice (some ad) n c) k xs):ad=⟨ad.block,0,none⟩/\B<=ad.block/\Blk w ad.block:=by
 rcases h.2 with ⟨e,_⟩ | ⟨g,cap,cur,e,hg,hh,_⟩
 · cases e
 · cases e;exact ⟨rfl,hg,_,_,hh⟩
set_option maxRecDepth 100000 in
set_option maxHeartbeats 3200000 in
theorem copy_anyK (v:V):∀(k:Int) (t:ByteArray) (i:Int) (r:Nat) (f:Bool) (a:Option Addr) (n cap:Nat) (w:World),RV w.cell? (Aj k t i r f a n cap) v->v.count<=100000000 ->
   Calls Tryz.prog 48 #[.agg #[.int .i64 k,.string t,.int .i64 i,.float .f64 r,.bool f,.slice a n cap]] w fun e w' =>
     ∃(a' : Option Addr) (cap' : Nat),e=.returned (.agg #[.int .i64 k,.string t,.int .i64 i,.float .f64 r,.bool f,.slice a' n cap'])/\RV (Aq w.heap.size w') (Aj k t i r f a' n cap') v/\Below w.heap.size w w' /\ ∀ad,a' = some ad->ad=⟨ad.block,0,none⟩/\w.heap.size+2<=ad.block/\Blk w' ad.block:=by
 induction v using V.ind with
 | h v ih=>
 intro k t i r f a n cap w hv hcnt;replace ih:=Hd ih;obtain ⟨rfl,rfl,rfl,rfl,rfl,hnl⟩:=hv.len;have hll:v.list.length<v.count:=by cases v;have:=V.length_le (V.list (.mk ‹_› ‹_› ‹_› ‹_› ‹_› ‹_›));simp only [V.count,V.list] at this ⊢;omega
 have hnb:n<100000000:=by omega
 replace hnl:=Hd hnl;clear hll;obtain ⟨W2,hW2⟩:∃W2,W2=(w.alloc (.cells #[.int .i64 v.kind,.string v.text,.int .i64 v.int,.float .f64 v.real,.bool v.flag,.slice a n cap] 40)).alloc (.cells #[.int .i64 0,.string ⟨#[]⟩,.int .i64 0,.float .f64 0,.bool false,.slice none 0 0] 40):=⟨_,rfl⟩;have hb2:Below w.heap.size w W2:=by rw [hW2];exact ((Below.refl _ _).alloc (Nat.le_refl _) _).alloc (by simp) _
 have hs2:W2.heap.size=w.heap.size+2:=by rw [hW2];simp
 have hB:∀q u,#[.int .i64 v.kind,.string v.text,.int .i64 v.int,.float .f64 v.real,.bool v.flag,.slice a n cap][q]?=some u->W2.cell? ⟨w.heap.size,q,none⟩=some u:=fun q u h=>by rw [hW2,World.cell?_alloc_past _ _ _ (by simp),World.cell?_alloc_new];exact h
 have hC:∀q u,#[.int .i64 0,.string ⟨#[]⟩,.int .i64 0,.float .f64 0,.bool false,.slice none 0 0][q]?=some u->W2.cell? ⟨w.heap.size+1,q,none⟩=some u:=fun q u h=>by
   rw [hW2,show w.heap.size+1=(w.alloc (.cells #[.int .i64 v.kind,.string v.text,.int .i64 v.int,.float .f64 v.real,.bool v.flag,.slice a n cap] 40)).heap.size by simp,World.cell?_alloc_new];exact h
 have hfB:Blk W2 w.heap.size:=by rw [hW2];exact (Blk.new w _ _).fr (S:=fun _=>False) ((Fr.refl _ _).alloc _) (fun h=>h)
 have hfC:Blk W2 (w.heap.size+1):=by rw [hW2,show w.heap.size+1=(w.alloc (.cells #[.int .i64 v.kind,.string v.text,.int .i64 v.int,.float .f64 v.real,.bool v.flag,.slice a n cap] 40)).heap.size by simp];exact Blk.new _ _ _
 replace hW2:=Hd hW2;replace hs2:=Hd hs2;replace hB:=Hd hB;replace hC:=Hd hC
 go_enter Tryz.func48,Tryz.ntmps48
 go_wp2_with fail
 rw [<-hW2.out];go_loopw [3,9] (fun s3 i wr=>∃(j:Nat) (css:List (List Value)),j<=n/\i=.int .i64 j/\wr.ownsRow (w.heap.size+2) 40 6 s3 j css.flatten/\RVs (nf (w.heap.size+2) s3.ownBlock wr) css (v.list.take j)/\Below W2.heap.size W2 wr) (fun _ i _=>n - (intOf i).toNat)
 case atStart=>exact ⟨0,[],Nat.zero_le _,rfl,World.ownsRow_nil _ _ _ _,RVs.nil _,Below.refl _ _⟩
 case round=>
   obtain ⟨j,css,hj,rfl,hown,hrs,hbel⟩:=hrel;have hbel0:=hb2.trans (hbel.mono (by rw [hs2.out];omega));by_cases hlt:j<n
   · obtain ⟨b,o,hjv,a', cap', rfl,hx,d0,d1,d2,d3,d4,d5⟩:=hv.elem hlt
     have hbw:=World.block_lt_of_cell? _ _ d0;have up:∀(q:Nat) u,w.cell? ⟨b,q,none⟩=some u->wr.cell? ⟨b,q,none⟩=some u:=fun q u h=>by rw [hbel0.cell (by exact hbw)];exact h
     replace d0:=up _ _ d0;replace d1:=up _ _ d1;replace d2:=up _ _ d2;replace d3:=up _ _ d3;replace d4:=up _ _ d4;replace d5:=up _ _ d5;have hts:v.list.take (j+1)=v.list.take j++[v.list[j]]:=List.take_succ_eq_append_getElem hjv;have hmem:v.list[j]∈v.list:=List.getElem_mem hjv;have hxc:(v.list[j]).count<=100000000:=by
       have:=V.count_mem hmem;have:V.countL v.list<=v.count:=by cases v;simp only [V.count,V.list];omega
       omega
     obtain ⟨x,hxe⟩:∃x,x=v.list[j]:=⟨_,rfl⟩;rw [<-hxe] at hx d0 d1 d2 d3 d4 d5 hts hmem hxc;have hx' := Hd (hx.mono (Aa (hbel0.trans ((Below.refl wr.heap.size wr).alloc (Nat.le_refl _) (.cells #[.int .i64 x.kind,.string x.text,.int .i64 x.int,.float .f64 x.real,.bool x.flag,.slice a' x.list.length cap'] 40) |>.mono hbel0.size))));replace hts:=Hd hts;replace hmem:=Hd hmem;replace hxe:=Hd hxe;replace hxc:=Hd hxc;have hws:w.heap.size+2<=wr.heap.size:=by have:=hbel.size;rw [hs2.out] at this;exact this
     clear up hx hv;go_wp2_with fail
     refine (ih.out x hmem.out _ _ _ _ _ _ _ _ _ hx'.out hxc.out).mono ?_;rintro e w3 ⟨a3,c3,rfl,hr3,hb3,_⟩;have hb3' : Below wr.heap.size wr w3:=((Below.refl _ _).alloc (Nat.le_refl _) _).trans (hb3.mono (by simp));have hown3:=Dj hown (Fr.of_below hb3') (fun k hk=>by have:=(An hown k hk).2;omega);have hown3b:=An hown;have hrs3:=hrs.mono (nf_below (B:=w.heap.size+2) (own:=u3.ownBlock) hb3');have hr3' := hr3.mono (Ew (B:=w.heap.size+2) (own:=u3.ownBlock) (by simp;omega) (fun k hk=>by have:=(hown3b k hk).2;simp;omega));have hws3:w.heap.size+2<=w3.heap.size:=Nat.le_trans hws hb3'.size;have hbel3:Below W2.heap.size W2 w3:=hbel.trans (hb3'.mono hbel.size);replace hown3b:=Hd hown3b;clear hr3 hb3 hb3' hown hrs hbel hbel0 d0 d1 d2 d3 d4 d5 hws;have hjn9:j<1000000000:=by omega
     go_wp2_with (at_builtin;refine Fb rfl rfl eVal rfl hown3 rfl rfl rfl hjn9 hws3 ?_)
     intro v' w4 hown4 hf4 hn4;have hbel4:Below W2.heap.size W2 w4:=Below.of_append hbel3 hf4 (fun k hk=>by have:=(hown3b.out k hk).1;rw [hs2.out];exact this) (by rw [hs2.out];exact hws3);have hrs4:=(hrs3.snoc hr3').mono (Gh hf4 hn4);clear hown3 hrs3 hr3' hbel3 hf4 hn4;go_wp2
     go_roundw
     case rel=>exact ⟨j+1,css++[Aj x.kind x.text x.int x.real x.flag a3 x.list.length c3],by omega,by go_num,by simpa [Aj] using hown4,by rw [hts.out];exact hrs4,hbel4⟩
     case measure=>simp [intOf];omega
   · have hjn:j=n:=by omega
     subst hjn;rw [hnl.out,List.take_length] at hrs;obtain ⟨a3,c3,rfl⟩:=(Reads.of_owns hown).shape;have up:∀(b q:Nat) u,b<w.heap.size+2->W2.cell? ⟨b,q,none⟩=some u->wr.cell? ⟨b,q,none⟩=some u:=fun b q u hlt h=>by rw [hbel.cell (by rw [hs2.out];exact hlt)];exact h
     have e0:=up _ _ _ (by omega) (hB.out 0 _ rfl);have e1:=up _ _ _ (by omega) (hB.out 1 _ rfl);have e2:=up _ _ _ (by omega) (hB.out 2 _ rfl);have e3:=up _ _ _ (by omega) (hB.out 3 _ rfl);have e4:=up _ _ _ (by omega) (hB.out 4 _ rfl);have e5:=up _ _ _ (by omega) (hB.out 5 _ rfl);have g0:=up _ _ _ (by omega) (hC.out 0 _ rfl);have g1:=up _ _ _ (by omega) (hC.out 1 _ rfl);have g2:=up _ _ _ (by omega) (hC.out 2 _ rfl);have g3:=up _ _ _ (by omega) (hC.out 3 _ rfl);have g4:=up _ _ _ (by omega) (hC.out 4 _ rfl);have g5:=up _ _ _ (by omega) (hC.out 5 _ rfl);have fB:=hfB.of_block (hbel.block _ (by rw [hs2.out];omega));have fC:=hfC.of_block (hbel.block _ (by rw [hs2.out];omega));have hr:=Hd (RV.of_row hnl.out hown (hrs.mono (nf_newer)));clear up hv;have z5:=fB.frz 5 none
     have hrA:(wr.setCell ⟨w.heap.size,5,none⟩ (.slice a3 j c3)).rangeAt w.heap.size 0 [.int .i64 v.kind,.string v.text,.int .i64 v.int,.float .f64 v.real,.bool v.flag,.slice a3 j c3]:=
       Cj (by rw [Ab (by simp)];exact e0) (by rw [Ab (by simp)];exact e1) (by rw [Ab (by simp)];exact e2) (by rw [Ab (by simp)];exact e3) (by rw [Ab (by simp)];exact e4) (Af e5)
     have hrC:(wr.setCell ⟨w.heap.size,5,none⟩ (.slice a3 j c3)).rangeAt (w.heap.size+1) 0 [.int .i64 0,.string ⟨#[]⟩,.int .i64 0,.float .f64 0,.bool false,.slice none 0 0]:=
       Cj (by rw [Ab (by simp)];exact g0) (by rw [Ab (by simp)];exact g1) (by rw [Ab (by simp)];exact g2) (by rw [Ab (by simp)];exact g3) (by rw [Ab (by simp)];exact g4) (by rw [Ab (by simp)];exact g5)
     have htC:=At (n:=6) hrC (fC.setCell _ _) rfl;have hrR:(((wr.setCell ⟨w.heap.size,5,none⟩ (.slice a3 j c3)).setCells (w.heap.size+1) 0 [.int .i64 v.kind,.string v.text,.int .i64 v.int,.float .f64 v.real,.bool v.flag,.slice a3 j c3])).rangeAt (w.heap.size+1) 0 [.int .i64 v.kind,.string v.text,.int .i64 v.int,.float .f64 v.real,.bool v.flag,.slice a3 j c3]:=
       World.rangeAt_setCells_same _ _ _ _ htC
     have hfin:Fr (fun k=>k=w.heap.size\/k=w.heap.size+1) wr ((wr.setCell ⟨w.heap.size,5,none⟩ (.slice a3 j c3)).setCells (w.heap.size+1) 0 [.int .i64 v.kind,.string v.text,.int .i64 v.int,.float .f64 v.real,.bool v.flag,.slice a3 j c3]):=
       Fr.setCells (fun _=>Or.inr rfl) _ _ _ ((Fr.refl _ wr).setCell (fun _=>Or.inl rfl) _)
     replace hrA:=Hd hrA;replace hrC:=Hd hrC;replace htC:=Hd htC;replace hrR:=Hd hrR
     go_wp2_with (first
       | (refine wpList_load_mid rfl 40 _ rfl w.heap.size 0 rfl _ _ hrA.out Tryz.underlying40 rfl Ai ?_)
       | (refine wpList_store_mid rfl 40 _ _ rfl (w.heap.size+1) 0 _ rfl rfl htC.out Ai (one6 _ _ _ _ _ _ _ _) ?_))
     refine bodyPost_ret (Ax (v:=.agg #[.int .i64 v.kind,.string v.text,.int .i64 v.int,.float .f64 v.real,.bool v.flag,.slice a3 j c3]) rfl rfl (run_loadVar_mid (P:=Tryz.prog) _ _ 0 40 _ _ hrR.out Tryz.underlying40 rfl Ai)) rfl ⟨a3,c3,rfl,?_,?_,?_⟩
     · refine hr.out.mono (fun ad u h=>?_)
       obtain ⟨h1,h2⟩:=A5 h;unfold Aq;rw [if_neg (by omega)];exact hfin.cell h1 (fun e=>by omega)
     · exact hbel0.trans (hfin.below hbel0.size (fun i hi h=>by omega))
     · rintro ad rfl
       obtain ⟨q1,q2,q3⟩:=owns_blk hown;exact ⟨q1,q2,q3.fr hfin (fun h=>by omega)⟩
theorem copy_any (v:V) (k:Int) (t:ByteArray) (i:Int) (r:Nat) (f:Bool) (a:Option Addr) (n cap:Nat) (w:World) (hv:RV w.cell? (Aj k t i r f a n cap) v) (hc:v.count<=100000000) :
   Calls Tryz.prog 48 #[.agg #[.int .i64 k,.string t,.int .i64 i,.float .f64 r,.bool f,.slice a n cap]] w fun e w' =>
     ∃(a' : Option Addr) (cap' : Nat),e=.returned (.agg #[.int .i64 k,.string t,.int .i64 i,.float .f64 r,.bool f,.slice a' n cap'])/\RV (Aq w.heap.size w') (Aj k t i r f a' n cap') v/\Below w.heap.size w w' :=
 (copy_anyK v k t i r f a n cap w hv hc).mono fun e w' ⟨a', cap', h1,h2,h3,_⟩=>⟨a', cap', h1,h2,h3⟩
theorem f64bits_run (r:Nat) (w:World):(callFunc 165 #[.float .f64 r]).run Tryz.prog w=.ok (.value (.int .u64 r)) w:=by kernel_rfl
end Go.Proofs.YtfaihaoajdcjbaaGreatDoor
