/- internal/strconv.decimal in memory; what its loops keep. -/
import Derived.Test.YtagkgfniihiinaaGreatDoorJ79
import Derived.Test.YtagkgfniihiinaaGreatDoorJ56
import Derived.Test.YtagkgfniihiinaaGreatDoorJ23
import Derived.Test.YtagkgfniihiinaaGreatDoorProg
import Derived.Lib.IndexBytes
import Derived.Deep.DeepCutAuto
import Derived.Deep.CutBlock
set_option linter.all false
set_option maxHeartbeats 6400000
set_option maxRecDepth 100000
namespace Go.Proofs.YtagkgfniihiinaaGreatDoor
open Go.RowKit
def row (f:Nat->UInt8) (n:Nat):List UInt8:=(List.range n).map f
theorem Fe (f:Nat->UInt8) (n:Nat):(row f n).length=n:=by unfold row;simp
theorem row_succ (f:Nat->UInt8) (n:Nat):row f (n+1)=row f n++[f n]:=by unfold row;rw [List.range_succ,List.map_append];rfl
theorem row_get (f:Nat->UInt8) {n i:Nat} (h:i<n):(row f n)[i]'(by rw [Fe];exact h)=f i:=by unfold row;simp
theorem row_ext {f:Nat->UInt8} {n:Nat} {L:List UInt8} (hn:L.length=n) (h:∀i (hi:i<L.length),f i=L[i]):row f n=L:=by
 refine List.ext_getElem (by rw [Fe,hn]) fun i h1 h2=>?_;rw [Fe] at h1;rw [row_get f h1];exact h i h2
theorem row_at {f:Nat->UInt8} {L:List UInt8} (h:row f L.length=L) {i:Nat} (hi:i<L.length):f i=L[i]:=by
 have h1:=row_get f hi;have h2:(row f L.length)[i]'(by rw [Fe];exact hi)=L[i]:=by congr 1
 rw [<-h1,h2]
theorem row_congr {f g:Nat->UInt8} {n:Nat} (h:∀i,i<n->f i=g i):row f n=row g n:=by
 unfold row;exact List.map_congr_left fun i hi=>h i (List.mem_range.1 hi)
def stF (f:Nat->UInt8) (i:Nat) (c:UInt8):Nat->UInt8:=fun j=>if j=i then c else f j
theorem stF_eq (f:Nat->UInt8) (i:Nat) (c:UInt8):stF f i c i=c:=if_pos rfl
theorem stF_ne (f:Nat->UInt8) {i j:Nat} (c:UInt8) (h:j≠i):stF f i c j=f j:=if_neg h
theorem row_put (f:Nat->UInt8) (n:Nat) (c:UInt8):row (stF f n c) (n+1)=row f n++[c]:=by
 rw [row_succ,stF_eq,row_congr (g:=f) (fun i hi=>stF_ne f c (by omega))]
theorem strip_row (f:Nat->UInt8) (n:Nat):Aw (row f (n+1))=if f n=48 then Aw (row f n) else row f (n+1):=by
 rw [row_succ];unfold Aw;rw [List.reverse_append,List.reverse_cons,List.reverse_nil,List.nil_append,List.singleton_append,List.dropWhile_cons];by_cases h:f n=48
 ·rw [if_pos h,if_pos (by simpa using h)]
 ·rw [if_neg h,if_neg (by simpa using h),List.reverse_cons,List.reverse_reverse]
theorem row_strip (f:Nat->UInt8) (n:Nat):row f (Aw (row f n)).length=Aw (row f n):=by
 have h:=stripZ_take (row f n);have hl:=Ga (row f n);rw [Fe] at hl;generalize hm:(Aw (row f n)).length=m at *;rw [h];unfold row;rw [<-List.map_take,List.take_range,Nat.min_eq_left hl]
structure DM (w:World) (b:Nat) (f:Nat->UInt8) (n:Nat) (dp:Int) (ng tr:Bool):Prop where
 blk:Blk w b
 dig:∀i,i<800->w.cell? ⟨b,i,none⟩=some (.int .u8 ((f i).toNat:Int))
 nd:w.cell? ⟨b,800,none⟩=some (.int .i64 (n:Int))
 pt:w.cell? ⟨b,801,none⟩=some (.int .i64 dp)
 sg:w.cell? ⟨b,802,none⟩=some (.bool ng)
 cut:w.cell? ⟨b,803,none⟩=some (.bool tr)
theorem DM.put {w:World} {b:Nat} {f:Nat->UInt8} {n:Nat} {dp:Int} {ng tr:Bool} (h:DM w b f n dp ng tr) {i:Nat} (hi:i<800) (c:UInt8):DM (w.setCell ⟨b,i,none⟩ (.int .u8 (c.toNat:Int))) b (stF f i c) n dp ng tr:=by
 refine ⟨h.blk.setCell _ _,fun j hj=>?_,?_,?_,?_,?_⟩
 ·by_cases e:j=i
  ·subst e;rw [stF_eq];exact Ak (h.dig j hj)
  ·rw [stF_ne f c e,Ac (fun q=>e (by cases q;rfl))];exact h.dig j hj
 ·rw [Ac (fun q=>by cases q;omega)];exact h.nd
 ·rw [Ac (fun q=>by cases q;omega)];exact h.pt
 ·rw [Ac (fun q=>by cases q;omega)];exact h.sg
 ·rw [Ac (fun q=>by cases q;omega)];exact h.cut
theorem DM.setN {w:World} {b:Nat} {f:Nat->UInt8} {n:Nat} {dp:Int} {ng tr:Bool} (h:DM w b f n dp ng tr) (m:Nat):DM (w.setCell ⟨b,800,none⟩ (.int .i64 (m:Int))) b f m dp ng tr:=by
 refine ⟨h.blk.setCell _ _,fun j hj=>?_,Ak h.nd,?_,?_,?_⟩
 ·rw [Ac (fun q=>by cases q;omega)];exact h.dig j hj
 ·rw [Ac (fun q=>by cases q)];exact h.pt
 ·rw [Ac (fun q=>by cases q)];exact h.sg
 ·rw [Ac (fun q=>by cases q)];exact h.cut
theorem DM.setP {w:World} {b:Nat} {f:Nat->UInt8} {n:Nat} {dp:Int} {ng tr:Bool} (h:DM w b f n dp ng tr) (q:Int):DM (w.setCell ⟨b,801,none⟩ (.int .i64 q)) b f n q ng tr:=by
 refine ⟨h.blk.setCell _ _,fun j hj=>?_,?_,Ak h.pt,?_,?_⟩
 ·rw [Ac (fun q=>by cases q;omega)];exact h.dig j hj
 ·rw [Ac (fun q=>by cases q)];exact h.nd
 ·rw [Ac (fun q=>by cases q)];exact h.sg
 ·rw [Ac (fun q=>by cases q)];exact h.cut
theorem DM.setS {w:World} {b:Nat} {f:Nat->UInt8} {n:Nat} {dp:Int} {ng tr:Bool} (h:DM w b f n dp ng tr) (q:Bool):DM (w.setCell ⟨b,802,none⟩ (.bool q)) b f n dp q tr:=by
 refine ⟨h.blk.setCell _ _,fun j hj=>?_,?_,?_,Ak h.sg,?_⟩
 ·rw [Ac (fun q=>by cases q;omega)];exact h.dig j hj
 ·rw [Ac (fun q=>by cases q)];exact h.nd
 ·rw [Ac (fun q=>by cases q)];exact h.pt
 ·rw [Ac (fun q=>by cases q)];exact h.cut
theorem DM.setT {w:World} {b:Nat} {f:Nat->UInt8} {n:Nat} {dp:Int} {ng tr:Bool} (h:DM w b f n dp ng tr) (q:Bool):DM (w.setCell ⟨b,803,none⟩ (.bool q)) b f n dp ng q:=by
 refine ⟨h.blk.setCell _ _,fun j hj=>?_,?_,?_,?_,Ak h.cut⟩
 ·rw [Ac (fun q=>by cases q;omega)];exact h.dig j hj
 ·rw [Ac (fun q=>by cases q)];exact h.nd
 ·rw [Ac (fun q=>by cases q)];exact h.pt
 ·rw [Ac (fun q=>by cases q)];exact h.sg
theorem DM.drewN {w:World} {b:Nat} {f:Nat->UInt8} {n:Nat} {dp:Int} {ng tr:Bool} (h:DM w b f n dp ng tr) (k:Nat):DM (w.drewN k) b f n dp ng tr:=by
 have hc:∀a,(w.drewN k).cell? a=w.cell? a:=fun a=>World.cell?_drewN ..;refine ⟨?_,fun i hi=>by rw [hc];exact h.dig i hi,by rw [hc];exact h.nd,by rw [hc];exact h.pt,by rw [hc];exact h.sg,by rw [hc];exact h.cut⟩;induction k with
 | zero=>exact h.blk
 | succ k ih=>exact Blk.drew (ih fun a=>World.cell?_drewN ..)
theorem Fr.drewN {S:Nat->Prop} {a w:World} (h:Fr S a w) (k:Nat):Fr S a (w.drewN k):=by
 induction k with
 | zero=>exact h
 | succ k ih=>exact ih.drew
def Dm (w:World) (b:Nat) (d:Dec) (ng:Bool):Prop:=∃f,DM w b f d.L.length d.dp ng d.tr/\row f d.L.length=d.L
theorem Dm.of_trim {w:World} {b:Nat} {f:Nat->UInt8} {n:Nat} {dp:Int} {ng tr:Bool} (h:DM w b f (Aw (row f n)).length (if Aw (row f n)=[] then 0 else dp) ng tr):Dm w b (Ge (row f n) dp tr) ng:=⟨f,h,row_strip f n⟩
theorem val_at:∀(j:Nat) (L:List UInt8),(∀c∈L,isD c=true)->(h:j<L.length)->dv (L[L.length - 1 - j]'(by omega))=valD L / 10 ^ j % 10
 | j,L,hd,h=>by
  obtain ⟨m,hm⟩:∃m,L.length - 1 - j=m:=⟨_,rfl⟩;have hml:m<L.length:=by omega
  have e:L=L.take m++(L[m] :: L.drop (m+1)):=by rw [<-List.drop_eq_getElem_cons hml,List.take_append_drop]
  have hlen:(L.drop (m+1)).length=j:=by rw [List.length_drop];omega
  have hlt:=Du (l:=L.drop (m+1)) (fun c hc=>hd c (List.mem_of_mem_drop hc));have hc:=Gd (hd L[m] (List.getElem_mem hml));have hv:valD L=(valD (L.take m) * 10+dv L[m]) * 10 ^ j+valD (L.drop (m+1)):=by
   conv=>lhs;rw [e]
   rw [Df,Dl,List.length_cons,hlen,Nat.pow_succ,Nat.add_mul];have:valD (L.take m) * (10 ^ j * 10)=valD (L.take m) * 10 * 10 ^ j:=by simp only [Nat.mul_assoc,Nat.mul_left_comm,Nat.mul_comm]
   omega
  rw [hlen] at hlt;have h1:valD L / 10 ^ j=valD (L.take m) * 10+dv L[m]:=by
   rw [hv,Nat.mul_comm,Nat.mul_add_div (Nat.pow_pos (by decide)),Nat.div_eq_of_lt hlt,Nat.add_zero]
  rw [h1];simp only [hm];omega
theorem isD_of_dv {c:UInt8} {n:Nat} (hc:isD c=true) (h:dv c=n):c=dg8 n/\c.toNat=48+n:=by
 have h9:=Gd hc;unfold isD at hc;simp only [Bool.and_eq_true,decide_eq_true_eq] at hc;unfold dv at h;have h2:c.toNat=48+n:=by omega
 refine ⟨UInt8.toNat_inj.1 ?_,h2⟩;rw [h2];unfold dg8;rw [C6 (by omega)]
theorem ls_at (k:Nat) (d:Dec) {j:Nat} (h:j<(lsO k d).length):∃r,(lsO k d)[(lsO k d).length - 1 - j]'(by omega)=dg8 r/\r=valD d.L * 2 ^ k / 10 ^ j % 10/\r<10:=by
 have h1:=val_at j (lsO k d) (Dr _) h;have h2:valD (lsO k d)=valD d.L * 2 ^ k:=El _;rw [h2] at h1;exact ⟨_,(isD_of_dv (Dr _ _ (List.getElem_mem _)) h1).1,rfl,Nat.mod_lt _ (by decide)⟩
theorem ls_step {L:List UInt8} {j k:Nat} (hd:∀c∈L,isD c=true) (h:j<L.length) :
  valD (L.drop (L.length - j)) * 2 ^ k / 10 ^ j+dv (L[L.length - 1 - j]'(by omega)) * 2 ^ k=valD (L.drop (L.length - (j+1))) * 2 ^ k / 10 ^ j /\
  valD (L.drop (L.length - (j+1))) * 2 ^ k / 10 ^ j / 10=valD (L.drop (L.length - (j+1))) * 2 ^ k / 10 ^ (j+1) /\
  valD (L.drop (L.length - (j+1))) * 2 ^ k / 10 ^ j % 10=valD L * 2 ^ k / 10 ^ j % 10 /\
  valD (L.drop (L.length - j)) * 2 ^ k / 10 ^ j<=2 ^ k:=by
 obtain ⟨m,hm⟩:∃m,L.length - (j+1)=m:=⟨_,rfl⟩;have d:m<L.length:=by omega
 have e1:L.length - j=m+1:=by omega
 have e2:L.length - 1 - j=m:=by omega
 rw [hm,e1];simp only [e2];have a:(L.drop (m+1)).length=j:=by rw [List.length_drop];omega
 have b:=Du (l:=L.drop (m+1)) (fun c hc=>hd c (List.mem_of_mem_drop hc));rw [a] at b;have hp:0<10 ^ j:=Nat.pow_pos (by decide);have hv:valD (L.drop m)=dv L[m] * 10 ^ j+valD (L.drop (m+1)):=by rw [List.drop_eq_getElem_cons d,Dl,a]
 have hT:valD L=valD (L.take m) * 10 ^ (j+1)+valD (L.drop m):=by
  conv=>lhs;rw [<-List.take_append_drop m L]
  rw [Df,List.length_drop,show L.length - m=j+1 by omega]
 refine ⟨?_,?_,?_,?_⟩
 ·rw [hv,Nat.add_mul,Nat.mul_right_comm,Nat.mul_comm (dv L[m] * 2 ^ k),Nat.mul_add_div hp,Nat.add_comm]
 ·rw [Nat.div_div_eq_div_mul,<-Nat.pow_succ]
 ·rw [hT,Nat.add_mul]
  have:valD (L.take m) * 10 ^ (j+1) * 2 ^ k=10 ^ j * (valD (L.take m) * 2 ^ k * 10):=by rw [Nat.pow_succ];simp only [Nat.mul_assoc,Nat.mul_left_comm,Nat.mul_comm]
  rw [this,Nat.mul_add_div hp];omega
 ·refine Nat.le_trans (Nat.div_le_div_right (c:=10 ^ j) (Nat.mul_le_mul_right (2 ^ k) (Nat.le_of_lt b))) ?_
  rw [Nat.mul_comm,Nat.mul_div_cancel _ hp];exact Nat.le_refl _
theorem ls_more {T j:Nat} (h:0<T / 10 ^ j):j<Lib.nDigits T:=by
 have hp:0<10 ^ j:=Nat.pow_pos (by decide);have h1:10 ^ j<=T:=by
  rcases Nat.lt_or_ge T (10 ^ j) with h9 | h9
  ·rw [Nat.div_eq_of_lt h9] at h;omega
  ·exact h9
 exact F7 (by omega) h1
theorem ls_done {T j:Nat} (h0:0<T) (h:T / 10 ^ j=0):Lib.nDigits T<=j:=by
 have hp:0<10 ^ j:=Nat.pow_pos (by decide);refine Da h0 ?_;rcases Nat.lt_or_ge T (10 ^ j) with h9 | h9
 ·exact h9
 ·have:=Nat.div_pos h9 hp;omega
theorem ls_div {T j:Nat}:T / 10 ^ j / 10=T / 10 ^ (j+1):=by rw [Nat.div_div_eq_div_mul,<-Nat.pow_succ]
structure Behind (O:List UInt8) (f g:Nat->UInt8) (t0 t:Bool) (p:Nat):Prop where
 done:∀i (h:i<O.length),p<=i->i<800->g i=O[i]
 rest:∀i,i<p->g i=f i
 cut:t=(t0 || (O.drop (max p 800)).any (· != 48))
theorem Behind.start {O:List UInt8} {f:Nat->UInt8} {t0:Bool}:Behind O f f t0 t0 O.length:=
 ⟨fun i h h1=>by omega,fun _ _=>rfl,by rw [List.drop_eq_nil_of_le (by omega)];simp⟩
theorem Behind.put {O:List UInt8} {f g:Nat->UInt8} {t0 t:Bool} {p:Nat} (h:Behind O f g t0 t (p+1)) (hp:p<O.length) (h8:p<800):Behind O f (stF g p O[p]) t0 t p:=by
 refine ⟨fun i hi h1 h2=>?_,fun i hi=>?_,?_⟩
 ·by_cases e:i=p
  ·subst e;rw [stF_eq]
  ·rw [stF_ne g _ e];exact h.done i hi (by omega) h2
 ·rw [stF_ne g _ (by omega)];exact h.rest i (by omega)
 ·rw [h.cut,show max (p+1) 800=800 by omega,show max p 800=800 by omega]
theorem Behind.skip {O:List UInt8} {f g:Nat->UInt8} {t0 t:Bool} {p:Nat} (h:Behind O f g t0 t (p+1)) (hp:p<O.length) (h8:800<=p):Behind O f g t0 (t || (O[p] != 48)) p:=by
 refine ⟨fun i hi h1 h2=>by omega,fun i hi=>h.rest i (by omega),?_⟩;rw [h.cut,show max (p+1) 800=p+1 by omega,show max p 800=p by omega,List.drop_eq_getElem_cons hp,List.any_cons];cases t0<;>cases (O[p] != 48)<;>cases (List.drop (p+1) O).any (· != 48)<;>rfl
theorem Behind.whole {O:List UInt8} {f g:Nat->UInt8} {t0 t:Bool} (h:Behind O f g t0 t 0):row g (min 800 O.length)=O.take 800/\t=(t0 || (O.drop 800).any (· != 48)):=by
 refine ⟨row_ext (by rw [List.length_take]) fun i hi=>?_,h.cut⟩;rw [List.length_take] at hi;rw [List.getElem_take];exact h.done i (by omega) (by omega) (by omega)
theorem pick_more {k n:Nat} {c:UInt8} {l:List UInt8} (h:n / 2 ^ k=0):A8 k n (c :: l)=((A8 k (n * 10+dv c) l).1,(A8 k (n * 10+dv c) l).2.1+1,(A8 k (n * 10+dv c) l).2.2):=by
 rw [A8,if_pos h]
theorem pick_stop {k n:Nat} {l:List UInt8} (h:n / 2 ^ k≠0):A8 k n l=(n,0,l):=by
 cases l with
 | nil=>rfl
 | cons c l=>rw [A8,if_neg h]
theorem fill_more {k n f:Nat} (h:n / 2 ^ k=0):Cw k (f+1) n=((Cw k f (n * 10)).1,(Cw k f (n * 10)).2+1):=by rw [Cw,if_pos h]
theorem fill_stop {k n f:Nat} (h:n / 2 ^ k≠0):Cw k f n=(n,0):=by
 cases f with
 | zero=>rfl
 | succ f=>rw [Cw,if_neg h]
theorem tail_more {k n f:Nat} (h:n≠0):Cs k (f+1) n=dg8 (n / 2 ^ k) :: Cs k f (n % 2 ^ k * 10):=by rw [Cs,if_neg h]
theorem Fq {k f:Nat}:Cs k f 0=[]:=by
 cases f with
 | zero=>rfl
 | succ f=>rw [Cs,if_pos rfl]
structure TailI (k g n:Nat):Prop where
 lt:n<10 * 2 ^ k
 dvd:2 ^ (k+1 - g) ∣ n
 le:g<=k+2
 zero:g=0->n=0
theorem TailI.start {k n:Nat} (h:n<10 * 2 ^ k):TailI k (k+2) n:=⟨h,by rw [show k+1 - (k+2)=0 by omega];exact Nat.one_dvd _,Nat.le_refl _,fun h=>by omega⟩
theorem TailI.next {k g n:Nat} (h:TailI k (g+1) n):TailI k g (n % 2 ^ k * 10):=by
 have h2:=Nat.two_pow_pos k;have hm:=Nat.mod_lt n h2;have hle:=h.le;refine ⟨by omega,?_,by omega,fun hg=>?_⟩
 ·by_cases hk:g<=k
  ·have h1:=h.dvd
   rw [show k+1 - (g+1)=k - g by omega] at h1;have h3:2 ^ (k - g) ∣ 2 ^ k:=Nat.pow_dvd_pow 2 (by omega);have h4:2 ^ (k - g) ∣ n % 2 ^ k:=(Nat.dvd_mod_iff h3).2 h1;rw [show k+1 - g=(k - g)+1 by omega,Nat.pow_succ];exact Nat.mul_dvd_mul h4 ⟨5,rfl⟩
  ·rw [show k+1 - g=0 by omega];exact Nat.one_dvd _
 ·subst hg
  have h1:=h.dvd;rw [show k+1 - (0+1)=k by omega] at h1;rw [Nat.mod_eq_zero_of_dvd h1]
structure Front (P:List UInt8) (g:Nat->UInt8) (t0 t:Bool) (p:Nat):Prop where
 len:p=min 800 P.length
 row:row g p=P.take 800
 cut:t=(t0 || (P.drop 800).any (· != 48))
theorem Front.put {P:List UInt8} {g:Nat->UInt8} {t0 t:Bool} {p:Nat} (h:Front P g t0 t p) (h8:p<800) (c:UInt8):Front (P++[c]) (stF g p c) t0 t (p+1):=by
 have hl:=h.len;have hpl:P.length=p:=by omega
 refine ⟨by rw [List.length_append,List.length_singleton];omega,?_,?_⟩
 ·have h1:=h.row
  rw [row_put,h1,List.take_of_length_le (by omega),List.take_of_length_le (by rw [List.length_append,List.length_singleton];omega)]
 ·rw [h.cut,List.drop_eq_nil_of_le (by omega),List.drop_eq_nil_of_le (by rw [List.length_append,List.length_singleton];omega)]
theorem Front.skip {P:List UInt8} {g:Nat->UInt8} {t0 t:Bool} {p:Nat} (h:Front P g t0 t p) (h8:800<=p) (c:UInt8):Front (P++[c]) g t0 (t || (c != 48)) p:=by
 have hl:=h.len;refine ⟨by rw [List.length_append];omega,?_,?_⟩
 ·rw [h.row,List.take_append_of_le_length (by omega)]
 ·rw [h.cut,List.drop_append_of_le_length (by omega),List.any_append,List.any_cons,List.any_nil,Bool.or_false,Bool.or_assoc]
theorem dg8_ne {n:Nat} (h:n<10):(dg8 n != 48)=decide (0<n):=by
 have h1:=dg8_dv h;rcases Nat.eq_zero_or_pos n with h0 | h0
 ·subst h0;rfl
 ·rw [decide_eq_true h0,bne_iff_ne]
  intro e;rw [e] at h1;have:dv 48=0:=rfl;omega
theorem take_val {L:List UInt8} {i:Nat} (h:i<L.length):valD (L.take (i+1))=valD (L.take i) * 10+dv L[i]:=by rw [List.take_succ_eq_append_getElem h,valD_snoc]
theorem getD_at {L:List UInt8} {i:Nat} (h:i<L.length):L.getD i 0=L[i]:=by rw [List.getD_eq_getElem?_getD,List.getElem?_eq_getElem h];rfl
theorem cast48 {c:UInt8}:((c.toNat:Int) == 48)=decide (c=48):=by
 by_cases h:c=48
 ·rw [h];rfl
 ·have h2:¬c.toNat=48:=fun e=>h (UInt8.toNat_inj.1 e)
  rw [decide_eq_false h];exact beq_eq_false_iff_ne.2 (fun e=>h2 (by omega))
theorem dtrim_any {w:World} {b n:Nat} {f:Nat->UInt8} {dp:Int} {ng tr:Bool} (h:DM w b f n dp ng tr) (hn:n<=800) :
  Calls Tryz.prog 181 #[.pointer (some ⟨b,0,none⟩)] w fun e w' => e=.returned (.tuple #[])/\Dm w' b (Ge (row f n) dp tr) ng/\Fr (fun k=>k=b) w w' := by
 obtain ⟨L,hL⟩:∃L,L=Aw (row f n):=⟨_,rfl⟩;have c:∀w', DM w' b f L.length (if L=[] then 0 else dp) ng tr->Dm w' b (Ge (row f n) dp tr) ng:=fun w' hw=>by
  rw [hL] at hw;exact Dm.of_trim hw
 replace c:=Hd c;have h0:=Hd h;clear h
 go_enter Tryz.func181,Tryz.ntmps181
 go_wp2_with fail
 go_loopw [19] (fun _ wr=>∃m:Nat,m<=n/\Aw (row f m)=L/\DM wr b f m dp ng tr/\Fr (fun k=>k=b) w wr) (fun _ wr=>match wr.cell? ⟨b,800,none⟩ with | some (.int _ v)=>v.toNat | _=>0)
 case atStart=>exact ⟨n,Nat.le_refl _,hL.symm,h0.out,Fr.refl _ _⟩
 case round=>
  obtain ⟨m,hm,hs,hD,hF⟩:=hrel;have c0:=hD.nd;have q:=Hd (hD.dig);have a:∀nq,∃W,W=wr.drewN nq/\DM W b f m dp ng tr/\Fr (fun k=>k=b) w W:=fun nq=>⟨_,rfl,hD.drewN nq,hF.drewN nq⟩;replace a:=Hd a;replace hL:=Hd hL;clear h0 hD hF;rcases m with _ | i
  ·have j:L=[]:=by rw [<-hs];rfl
   replace hs:=Hd hs;replace j:=Hd j;go_upto_region 0 with fail
   go_quiet (fail)
   obtain ⟨W,hW,hD,hF⟩:=a.out nq;rw [<-hW];have c0:=hD.nd;have c1:=hD.pt;have z1:=hD.blk.frz 801 none;have s:=Hd (hD.setP 0);replace hW:=Hd hW;replace hF:=Hd hF;clear hD;go_wp2
   go_end0
   refine ⟨rfl,c.out _ ?_,hF.out.setCell (fun _=>rfl) _⟩;rw [j.out];exact s.out
  ·have hd:=q.out i (by omega)
   have hi8:(i:Int)<800:=by omega
   have d:=strip_row f i;have o:(((f i).toNat:Int) == 48)=decide (f i=48):=cast48;by_cases h48:f i=48
   ·rw [if_pos h48] at d
    have g:=Hd (d.symm.trans hs);have hv:((f i).toNat:Int)=48:=by rw [h48];rfl
    replace hs:=Hd hs;replace d:=Hd d;replace hv:=Hd hv;rw [decide_eq_true h48] at o;clear h48;go_upto_region 0 with fail
    go_quiet (fail)
    obtain ⟨W,hW,hD,hF⟩:=a.out nq;rw [<-hW];have t := hD.nd;have z0:=hD.blk.frz 800 none;have r:=Hd (hD.setN i);replace hW:=Hd hW;replace hF:=Hd hF;clear hD;go_wp2_with fail
    go_round
    case rel=>exact ⟨i,by omega,g.out,r.out,hF.out.setCell (fun _=>rfl) _⟩
    case measure=>rw [r.out.nd,c0];simp
   ·rw [if_neg h48] at d
    have g:L=row f (i+1):=(d.symm.trans hs).symm;have p:¬L=[]:=by rw [g,row_succ];simp
    have l:L.length=i+1:=by rw [g,Fe]
    have hv:¬((f i).toNat:Int)=48:=fun e=>h48 (UInt8.toNat_inj.1 (show (f i).toNat=48 by omega));replace hs:=Hd hs;replace g:=Hd g;replace d:=Hd d;replace p:=Hd p;replace l:=Hd l;rw [decide_eq_false h48] at o;clear h48;go_upto_region 0 with fail
    go_quiet (fail)
    obtain ⟨W,hW,hD,hF⟩:=a.out nq;rw [<-hW];have t := hD.nd;replace hW:=Hd hW;replace hD:=Hd hD;replace hF:=Hd hF;go_wp2
    go_end0
    refine ⟨rfl,c.out _ ?_,hF.out⟩;rw [if_neg p.out,l.out];exact hD.out
theorem lex_nil {l:List UInt8}:A3 l []=false:=by unfold A3;cases l<;>rfl
theorem lex_end {c:UInt8} {m:List UInt8}:A3 [] (c :: m)=true:=by unfold A3;rfl
theorem lex_eq {c:UInt8} {l m:List UInt8}:A3 (c :: l) (c :: m)=A3 l m:=by rw [A3,if_pos rfl]
theorem lex_ne {a c:UInt8} {l m:List UInt8} (h:a≠c):A3 (a :: l) (c :: m)=decide (a.toNat<c.toNat):=by rw [A3,if_neg h]
theorem row_drop {f:Nat->UInt8} {n i:Nat} (h:i<n):(row f n).drop i=f i :: (row f n).drop (i+1):=by
 rw [List.drop_eq_getElem_cons (by rw [Fe];exact h),row_get f h]
theorem prefix_any {w:World} {b n:Nat} {f:Nat->UInt8} {dp:Int} {ng tr:Bool} (h:DM w b f n dp ng tr) (hn:n<=800) (C:ByteArray) (hC:C.size<=100) :
  Calls Tryz.prog 227 #[.slice (some ⟨b,0,none⟩) n 800,.string C] w fun e w' => e=.returned (.bool (A3 (row f n) C.data.toList))/\∃k,w' = w.drewN k:=by
 obtain ⟨R,hR⟩:∃R,R=A3 (row f n) C.data.toList:=⟨_,rfl⟩;have d:=h.dig;rw [<-hR];replace hR:=Hd hR;replace d:=Hd d;have hn8:(n:Int)<=800:=by omega
 have hC8:(C.size:Int)<=100:=by omega
 clear h
 go_enter Tryz.func227,Tryz.ntmps227
 go_wp2_with fail
 go_loopw [5] (fun i wr=>∃j k:Nat,j<=C.size/\i=.int .i64 j/\A3 ((row f n).drop j) (C.data.toList.drop j)=R/\wr=w.drewN k) (fun i _=>C.size - (intOf i).toNat)
 case atStart=>exact ⟨0,0,Nat.zero_le _,rfl,hR.out.symm,rfl⟩
 case round=>
  obtain ⟨j,k,hj,rfl,hl,rfl⟩:=hrel;by_cases hjC:j<C.size
  ·have g:(j:Int)<(C.size:Int):=by omega
   obtain ⟨c,hc⟩:∃c,C[j]'hjC=c:=⟨_,rfl⟩;have a:C.data.toList.drop j=c :: C.data.toList.drop (j+1):=by
    have l:j<C.data.toList.length:=by rw [Array.length_toList];exact hjC
    have h1:=Lib.data_getElem? C j hjC;rw [List.getElem?_eq_getElem l,hc] at h1;rw [List.drop_eq_getElem_cons l,Option.some.inj h1]
   rw [a] at hl;replace a:=Hd a;by_cases hjn:j<n
   ·have m:(j:Int)<(n:Int):=by omega
    rw [row_drop hjn] at hl;have hd:=d.out j (by omega);by_cases he:f j=c
    ·have hv:((f j).toNat:Int)=(c.toNat:Int):=by rw [he]
     rw [he,lex_eq] at hl;rw [hv] at hd;replace hl:=Hd hl;clear he hv;go_upto_region 6 with fail
     go_quiet (fail)
     go_wp2_with fail
     go_round
     case rel=>exact ⟨j+1,k+nq,by omega,by go_num,hl.out,rfl⟩
     case measure=>simp [intOf];omega
    ·have hv:((((f j).toNat:Int) != (c.toNat:Int)))=true:=by
      rw [bne_iff_ne];intro e;exact he (UInt8.toNat_inj.1 (by omega))
     rw [lex_ne he] at hl;have o:decide (((f j).toNat:Int)<(c.toNat:Int))=R:=by
      rw [<-hl];simp
     replace hl:=Hd hl;replace o:=Hd o;clear he;go_upto_region 6 with fail
     go_quiet (fail)
     go_upto_region 7 with fail
     go_quiet (fail)
     go_wp2;go_ret;refine ⟨by rw [<-hl.out];rfl,?_⟩;simp only [World.drewN_drewN];exact ⟨_,rfl⟩
   ·have m:¬(j:Int)<(n:Int):=by omega
    have hge:(n:Int)<=(j:Int):=by omega
    rw [List.drop_eq_nil_of_le (by rw [Fe];omega),lex_end] at hl;replace hl:=Hd hl;go_wp2;go_ret;exact ⟨by rw [<-hl.out];rfl,_,rfl⟩
  ·have g:¬(j:Int)<(C.size:Int):=by omega
   have a:C.data.toList.drop j=[]:=List.drop_eq_nil_of_le (by rw [Array.length_toList];show C.size<=j;omega);rw [a,lex_nil] at hl;replace a:=Hd a;replace hl:=Hd hl;go_wp2;go_ret;exact ⟨by rw [<-hl.out];rfl,_,rfl⟩
def cutS (k:Nat):ByteArray:=⟨(Lib.decDigits (5 ^ k)).toArray⟩
structure Slow (w:World):Prop where
 cheats:∃(b:Addr) (c:Nat),w.cell? ⟨9,0,none⟩=some (.slice (some b) 61 c)/\∀k,1<=k->k<=60->w.cell? (b.add (k * 2))=some (.int .i64 (Db k:Int))/\w.cell? ⟨(b.add (k * 2)).block,(b.add (k * 2)).off+1,none⟩=some (.string (cutS k))
 pts:∃(b:Addr) (c:Nat),w.cell? ⟨13,0,none⟩=some (.slice (some b) 9 c)/\∀i,i<9->w.cell? (b.add i)=some (.int .i64 (pt i:Int))
 i0:w.cell? ⟨7,0,none⟩=some (.int .u64 52)
 i1:w.cell? ⟨7,1,none⟩=some (.int .u64 11)
 i2:w.cell? ⟨7,2,none⟩=some (.int .i64 (-1023))
theorem Slow.below {w w' : World} (h:Slow w) (hb:Below w.heap.size w w'):Slow w' := by
 obtain ⟨⟨b,c,h1,h2⟩,⟨b', c', h3,h4⟩,h5,h6,h7⟩:=h;have d:∀a v,w.cell? a=some v->w'.cell? a=some v:=fun a v hv=>(hb.cell (World.block_lt_of_cell? _ _ hv)).trans hv;exact ⟨⟨b,c,d _ _ h1,fun k k1 k2=>⟨d _ _ (h2 k k1 k2).1,d _ _ (h2 k k1 k2).2⟩⟩,⟨b', c', d _ _ h3,fun i hi=>d _ _ (h4 i hi)⟩,d _ _ h5,d _ _ h6,d _ _ h7⟩
structure Dn (w0 w:World) (b:Nat):Prop where
 slow:Slow w0
 below:Below w0.heap.size w0 w
 new:w0.heap.size<=b
theorem Dn.fr {w0 w w' : World} {b:Nat} (h:Dn w0 w b) (hf:Fr (fun k=>k=b) w w'):Dn w0 w' b:=
 ⟨h.slow,h.below.trans (hf.below h.below.size (fun i hi e=>by have:=h.new;omega)),h.new⟩
theorem Dn.at {w0 w:World} {b:Nat} (h:Dn w0 w b):Slow w:=h.slow.below h.below
theorem cut_size {k:Nat} (h:k<=60):(cutS k).size<=100:=by
 unfold cutS;show (Lib.decDigits (5 ^ k)).toArray.size<=100;rw [List.size_toArray,Lib.decDigits_length];have:=five_len k;omega
theorem ls_stepN {L:List UInt8} {j k nd i:Nat} {c:UInt8} (hn:nd=L.length) (hd:∀c∈L,isD c=true) (h:j<nd) (hi:i=nd - 1 - j) (hc:L[i]?=some c) :
  valD (L.drop (nd - j)) * 2 ^ k / 10 ^ j+dv c * 2 ^ k=valD (L.drop (nd - (j+1))) * 2 ^ k / 10 ^ j /\
  valD (L.drop (nd - (j+1))) * 2 ^ k / 10 ^ j / 10=valD (L.drop (nd - (j+1))) * 2 ^ k / 10 ^ (j+1) /\
  valD (L.drop (nd - (j+1))) * 2 ^ k / 10 ^ j % 10=valD L * 2 ^ k / 10 ^ j % 10 /\
  valD (L.drop (nd - j)) * 2 ^ k / 10 ^ j<=2 ^ k:=by
 subst hn;subst hi;have h1:=ls_step (k:=k) hd h;rw [List.getElem?_eq_getElem (by omega)] at hc;rw [Option.some.inj hc] at h1;exact h1
theorem dleft_any {w0 w:World} {b k:Nat} {d:Dec} {ng:Bool} (hw:Dn w0 w b) (h:Dm w b d ng) (hg:d.Good) (hk1:1<=k) (hk:k<=60) (hp0:-1000000<=d.dp) (hp1:d.dp<=1000000) :
  Calls Tryz.prog 182 #[.pointer (some ⟨b,0,none⟩),.int .u64 (k:Int)] w fun e w' => e=.returned (.tuple #[])/\Dm w' b (lsD k d) ng/\Fr (fun k=>k=b) w w' := by
 obtain ⟨f,hD,ai⟩:=h;have ab:=ls_len hg k;obtain ⟨_,bl,bb,_⟩:=ls_good hg k;obtain ⟨⟨cb,cc,q1,q2⟩,_⟩:=hw.at;obtain ⟨q3,q4⟩:=q2 k hk1 hk;have bd:=hg.len;have hv:=hg.val;have ae:∀q,Calls Tryz.prog 227 #[.slice (some ⟨b,0,none⟩) (d.L.length) 800,.string (cutS k)] (w.drewN q) fun e w' => e=.returned (.bool (A3 d.L (cutS k).data.toList))/\∃m,w' = w.drewN m:=fun q=>by
  have h1:=prefix_any (hD.drewN q) bd (cutS k) (cut_size hk);rw [ai] at h1;exact h1.mono fun e w' ⟨he,m,hm⟩=>⟨he,q+m,by rw [hm,World.drewN_drewN]⟩
 obtain ⟨lx,hlx⟩:∃lx,lx=A3 d.L (cutS k).data.toList:=⟨_,rfl⟩;have aq:A3 d.L (Lib.decDigits (5 ^ k))=lx:=hlx.symm;rw [<-hlx] at ae;rw [aq] at ab;have c0:=hD.nd;have cp:=hD.pt;have hki:(k:Int)<=60:=by omega
 have hk0:(0:Int)<=(k:Int):=by omega
 obtain ⟨len,hln⟩:∃len,len=(lsO k d).length:=⟨_,rfl⟩;obtain ⟨nd,hnd⟩:∃nd,nd=d.L.length:=⟨_,rfl⟩;rw [<-hln,<-hnd] at ab;rw [<-hnd] at hD c0 ae ai bd;obtain ⟨ch,hch⟩:∃ch,ch=Db k:=⟨_,rfl⟩;rw [<-hch] at ab q3;have au:(ch:Int) - (if lx then 1 else 0)=(len:Int) - (nd:Int):=by cases lx<;>simp at ab ⊢<;>omega
 replace ae:=Hd ae;replace hlx:=Hd hlx;replace aq:=Hd aq;replace hD:=Hd hD;replace ai:=Hd ai;replace hg:=Hd hg;replace hln:=Hd hln;replace hnd:=Hd hnd;replace hch:=Hd hch;replace hv:=Hd hv;replace hw:=Hd hw;replace bl:=Hd bl;replace bb:=Hd bb;replace ab:=Hd ab;have hn8i:(nd:Int)<=800:=by omega
 have hk61:(k:Int)<61:=by omega
 have hch9:ch<=61:=by rw [hch.out];unfold Db;omega
 have hln9:len<=861:=by have:=ab.out;split at this<;>omega
 have be:nd<=len:=by rw [hnd.out,hln.out];exact bb.out
 clear q2
 go_enter Tryz.func182,Tryz.ntmps182
 go_upto_region 1 with fail
 go_quiet ((go_at_call 227;exact ae.out _))
 go_upto_if 30 with fail
 go_cut [4] from 30 to 32 (fun s4 wx=>s4=.int .i64 ((len:Int) - (nd:Int))/\∃q,wx=w.drewN q)
 case first=>
  cases lx
  ·have aj:(ch:Int)=(len:Int) - (nd:Int):=by simpa using au
   replace aj:=Hd aj;clear au;go_wp2_with fail
   go_meet
   exact ⟨by rw [aj.out],_,rfl⟩
  ·have aj:(ch:Int) - 1=(len:Int) - (nd:Int):=by simpa using au
   replace aj:=Hd aj;clear au;go_wp2_with fail
   go_meet
   exact ⟨by rw [aj.out],_,rfl⟩
 case rest=>
  obtain ⟨rfl,q,bv⟩:=hcut;obtain rfl:=bv;clear ae hlx aq ab au q1 q3 q4;obtain ⟨dl,hdl⟩:∃dl:Nat,dl=len - nd:=⟨_,rfl⟩;have av:(len:Int) - (nd:Int)=(dl:Int):=by omega
  have hdl9:(nd:Int)+(dl:Int)=(len:Int):=by omega
  rw [av];replace hdl:=Hd hdl;replace av:=Hd av;have a4:=Hd (hD.out.drewN q);have aw:Fr (fun k=>k=b) w (w.drewN q):=(Fr.refl _ _).drewN q;replace aw:=Hd aw;have a5:=Hd (fun c hc=>hg.out.dig c hc);go_wp2_with fail
  go_loopw [5,6,7] (fun s5 s6 s7 wr=>∃j:Nat,j<=nd/\s5=.int .i64 ((nd:Int) - (j:Int) - 1)/\s6=.int .i64 ((len:Int) - (j:Int))/\s7=.int .u64 ((valD (d.L.drop (nd - j)) * 2 ^ k / 10 ^ j:Nat):Int) /\
    ∃g t,DM wr b g nd d.dp ng t/\Behind (lsO k d) f g d.tr t (len - j)/\Fr (fun k=>k=b) w wr) (fun s5 _ _ _=>(intOf s5+1).toNat)
  case atStart=>
   refine ⟨0,Nat.zero_le _,by simp,by simp,?_,f,d.tr,a4.out,?_,aw.out⟩
   ·rw [Nat.sub_zero,hnd.out,List.drop_length];simp [valD]
   ·rw [Nat.sub_zero,hln.out];exact .start
  case round=>
   obtain ⟨j,hj,rfl,rfl,rfl,g,t,a,hB,hF⟩:=hrel;by_cases hjn:j<nd
   ·obtain ⟨i,hi⟩:∃i,i=nd - 1 - j:=⟨_,rfl⟩
    obtain ⟨p,hp⟩:∃p,p=len - 1 - j:=⟨_,rfl⟩;obtain ⟨A,hA⟩:∃A,A=valD (d.L.drop (nd - j)) * 2 ^ k / 10 ^ j:=⟨_,rfl⟩;rw [<-hA];have hjL:j<d.L.length:=by rw [<-hnd.out];exact hjn
    have a6:i<d.L.length:=by rw [<-hnd.out];omega
    obtain ⟨c,hc⟩:∃c,c=d.L[i]:=⟨_,rfl⟩;obtain ⟨a1,aa,bc,bm⟩:=ls_stepN (k:=k) (c:=c) hnd.out a5.out hjn hi (by rw [hc];exact List.getElem?_eq_getElem a6);rw [<-hA] at a1 bm;obtain ⟨V,hV⟩:∃V,V=valD (d.L.drop (nd - (j+1))) * 2 ^ k / 10 ^ j:=⟨_,rfl⟩;rw [<-hV] at a1 aa bc;have a2:isD c=true:=by rw [hc];exact a5.out _ (List.getElem_mem a6)
    have bf:=Gd a2;have a7:48<=c.toNat/\c.toNat<=57:=by unfold isD at a2;simpa using a2
    obtain ⟨dd,hdd⟩:∃dd,dd=dv c:=⟨_,rfl⟩;rw [<-hdd] at a1 bf;have hdd2:(c.toNat:Int) - 48=(dd:Int):=by rw [hdd];unfold dv;omega
    have ar:2 ^ k<=1152921504606846976:=by
     have:2 ^ k<=2 ^ 60:=Nat.pow_le_pow_right (by decide) hk;exact this
    obtain ⟨sh,hsh⟩:∃sh,sh=dd * 2 ^ k:=⟨_,rfl⟩;have hsh9:sh<=9 * 1152921504606846976:=by rw [hsh];exact Nat.mul_le_mul bf ar
    have hsh2:(dd:Int) * 2 ^ k=(sh:Int):=by rw [hsh];simp
    rw [<-hsh] at a1;have hA9:A<=1152921504606846976:=by omega
    have hAV:(A:Int)+(sh:Int)=(V:Int):=by omega
    have bp:V<=11529215046068469760:=by omega
    have bg:g i=c:=by
     have h1:=hB.rest i (by omega);have bh:=ai.out;rw [hnd.out] at bh;rw [h1,row_at bh a6,<-hc]
    have a8:=a.dig i (by omega);rw [bg] at a8;have hii:(nd:Int) - (j:Int) - 1=(i:Int):=by omega
    have hi8:(i:Int)<800:=by omega
    have ax:(i:Int) - 1=(nd:Int) - ((j+1:Nat):Int) - 1:=by omega
    obtain ⟨Q,hQ⟩:∃Q,Q=V / 10:=⟨_,rfl⟩;obtain ⟨r,hr⟩:∃r,r=V % 10:=⟨_,rfl⟩;rw [<-hQ] at aa;have ak:r=valD d.L * 2 ^ k / 10 ^ j % 10:=by rw [hr];exact bc
    replace ax:=Hd ax;replace aa:=Hd aa;replace hi:=Hd hi;have al:p+1=len - j:=by omega
    replace hp:=Hd hp;replace hA:=Hd hA;replace hV:=Hd hV;replace hc:=Hd hc;replace hdd:=Hd hdd;replace hsh:=Hd hsh;clear a1 bc bm bg a4 aw a2 a7 ar;have ay:r<10:=by rw [hr];exact Nat.mod_lt _ (by decide)
    have bq:Q<=V:=by rw [hQ];exact Nat.div_le_self _ _
    have y1:(V:Int).tdiv 10=(Q:Int):=by rw [Int.tdiv_eq_ediv_of_nonneg (by omega)];omega
    have y2:(V:Int) / 10=(Q:Int):=by omega
    have y3:(V:Int) - 10 * (Q:Int)=(r:Int):=by omega
    have y4:(len:Int) - (j:Int) - 1=(p:Int):=by omega
    have y5:(r:Int)+48=((dg8 r).toNat:Int):=by unfold dg8;rw [C6 ay];omega
    have ac:=a.dig;have hz:=a.blk.frz p none;have br:=a.blk.frz 803 none;have bs:=a.cut;have o:=fun h8=>a.put (i:=p) h8 (dg8 r);have az:=Hd (a.setT true);have s:p<(lsO k d).length:=by rw [<-hln.out];omega
    have af:(lsO k d)[p]'s=dg8 r:=by
     obtain ⟨r', e1,e2,_⟩:=ls_at k d (j:=j) (by rw [<-hln.out];omega);have e3:(lsO k d).length - 1 - j=p:=by rw [<-hln.out];omega
     simp only [e3] at e1;rw [e1,e2,ak]
    have z:Behind (lsO k d) f g d.tr t (p+1):=by rw [al];exact hB
    have u:((len:Int) - ((j+1:Nat):Int))=(p:Int):=by omega
    have ad:len - (j+1)=p:=by omega
    replace ak:=Hd ak;replace u:=Hd u;replace ad:=Hd ad;replace af:=Hd af;replace hB:=Hd hB;have y := s;replace al:=Hd al;replace hr:=Hd hr;replace hQ:=Hd hQ;by_cases h8:p<800
    ·have bi := ac p h8
     have v := o h8;have l:=z.put s h8;rw [af.out] at l;replace s:=Hd s;replace y := Hd y;have a0:(p:Int)<800:=by omega
     replace l:=Hd l;replace v := Hd v;replace o:=Hd o;replace ac:=Hd ac;replace z:=Hd z;replace a:=Hd a;replace hF:=Hd hF;go_wp2_with fail
     go_round
     case rel=>exact ⟨j+1,by omega,(by rw [ax.out]),(by rw [u.out]),(by rw [aa.out]),stF g p (dg8 r),t,v.out,by rw [ad.out];exact l.out,hF.out.setCell (fun _=>rfl) _⟩
     case measure=>simp [intOf];omega
    ·have a0:¬(p:Int)<800:=by omega
     have l:=z.skip s (by omega);rw [af.out,dg8_ne ay] at l;replace s:=Hd s;replace y := Hd y;replace o:=Hd o;replace ac:=Hd ac;replace z:=Hd z;replace a:=Hd a;replace hF:=Hd hF;by_cases hr0:r=0
     ·rw [decide_eq_false (by omega),Bool.or_false] at l
      have a9:((r:Int) != 0)=false:=by rw [hr0];rfl
      replace l:=Hd l;replace hr0:=Hd hr0;go_wp2_with fail
      go_round
      case rel=>exact ⟨j+1,by omega,(by rw [ax.out]),(by rw [u.out]),(by rw [aa.out]),g,t,a.out,by rw [ad.out];exact l.out,hF.out⟩
      case measure=>simp [intOf];omega
     ·rw [decide_eq_true (by omega),Bool.or_true] at l
      have a9:((r:Int) != 0)=true:=by simp;omega
      replace l:=Hd l;replace hr0:=Hd hr0;go_wp2_with fail
      go_round
      case rel=>exact ⟨j+1,by omega,(by rw [ax.out]),(by rw [u.out]),(by rw [aa.out]),g,true,az.out,by rw [ad.out];exact l.out,hF.out.setCell (fun _=>rfl) _⟩
      case measure=>simp [intOf];omega
   ·have bt:nd=j:=by omega
    subst bt;obtain ⟨T,hT⟩:∃T,T=valD d.L * 2 ^ k:=⟨_,rfl⟩;have bj:0<T:=by
     rw [hT];exact Nat.mul_pos (Nat.lt_of_lt_of_le (Nat.pow_pos (by decide)) hv.out.1) (Nat.two_pow_pos k)
    have ag:len=Lib.nDigits T:=by rw [hln.out,hT];unfold lsO;exact Lib.decDigits_length _
    rw [Nat.sub_self,List.drop_zero,<-hT];have hs5:(nd:Int) - (nd:Int) - 1=-1:=by omega
    have ba:T / 10 ^ nd<=1152921504606846976:=by
     have ar:2 ^ k<=1152921504606846976:=by
      have:2 ^ k<=2 ^ 60:=Nat.pow_le_pow_right (by decide) hk;exact this
     have bk:=Du a5.out;rw [<-hnd.out] at bk;have hp:0<10 ^ nd:=Nat.pow_pos (by decide);rw [hT];refine Nat.le_trans (Nat.div_le_div_right (c:=10 ^ nd) (Nat.mul_le_mul_right (2 ^ k) (Nat.le_of_lt bk))) ?_;rw [Nat.mul_comm,Nat.mul_div_cancel _ hp];exact ar
    replace a:=Hd a;replace hB:=Hd hB;replace hF:=Hd hF;replace hT:=Hd hT;replace ag:=Hd ag;replace ba:=Hd ba;clear a4 aw hj hjn;go_wp2_with fail
    go_loopw [6,7] (fun s6 s7 wx=>∃j:Nat,j<=len/\nd<=j/\s6=.int .i64 ((len:Int) - (j:Int))/\s7=.int .u64 ((T / 10 ^ j:Nat):Int) /\
      ∃g t,DM wx b g nd d.dp ng t/\Behind (lsO k d) f g d.tr t (len - j)/\Fr (fun k=>k=b) w wx) (fun s6 _ _=>(intOf s6).toNat)
    case atStart=>exact ⟨nd,be,Nat.le_refl _,rfl,rfl,g,t,a.out,hB.out,hF.out⟩
    case round=>
     clear a hB hF;obtain ⟨j,bn,bo,rfl,rfl,g,t,a,hB,hF⟩:=hrel;obtain ⟨V,hV⟩:∃V,V=T / 10 ^ j:=⟨_,rfl⟩;have bp:V<=1152921504606846976:=by
      refine Nat.le_trans ?_ ba.out;rw [hV];exact Nat.div_le_div_left (Nat.pow_le_pow_right (by decide) bo) (Nat.pow_pos (by decide))
     by_cases hV0:0<V
     ·have hjlt:j<len:=by rw [ag.out];exact ls_more (by rw [<-hV];exact hV0)
      have hV0i:(0:Int)<(V:Int):=by omega
      obtain ⟨p,hp⟩:∃p,p=len - 1 - j:=⟨_,rfl⟩;obtain ⟨Q,hQ⟩:∃Q,Q=V / 10:=⟨_,rfl⟩;obtain ⟨r,hr⟩:∃r,r=V % 10:=⟨_,rfl⟩;have aa:Q=T / 10 ^ (j+1):=by rw [hQ,hV];exact ls_div
      have ak:r=valD d.L * 2 ^ k / 10 ^ j % 10:=by rw [hr,hV,hT.out]
      have al:p+1=len - j:=by omega
      rw [<-hV];replace aa:=Hd aa;replace hp:=Hd hp;replace hV:=Hd hV;clear bn;have ay:r<10:=by rw [hr];exact Nat.mod_lt _ (by decide)
      have bq:Q<=V:=by rw [hQ];exact Nat.div_le_self _ _
      have y1:(V:Int).tdiv 10=(Q:Int):=by rw [Int.tdiv_eq_ediv_of_nonneg (by omega)];omega
      have y2:(V:Int) / 10=(Q:Int):=by omega
      have y3:(V:Int) - 10 * (Q:Int)=(r:Int):=by omega
      have y4:(len:Int) - (j:Int) - 1=(p:Int):=by omega
      have y5:(r:Int)+48=((dg8 r).toNat:Int):=by unfold dg8;rw [C6 ay];omega
      have ac:=a.dig;have hz:=a.blk.frz p none;have br:=a.blk.frz 803 none;have bs:=a.cut;have o:=fun h8=>a.put (i:=p) h8 (dg8 r);have az:=Hd (a.setT true);have s:p<(lsO k d).length:=by rw [<-hln.out];omega
      have af:(lsO k d)[p]'s=dg8 r:=by
       obtain ⟨r', e1,e2,_⟩:=ls_at k d (j:=j) (by rw [<-hln.out];omega);have e3:(lsO k d).length - 1 - j=p:=by rw [<-hln.out];omega
       simp only [e3] at e1;rw [e1,e2,ak]
      have z:Behind (lsO k d) f g d.tr t (p+1):=by rw [al];exact hB
      have u:((len:Int) - ((j+1:Nat):Int))=(p:Int):=by omega
      have ad:len - (j+1)=p:=by omega
      replace ak:=Hd ak;replace u:=Hd u;replace ad:=Hd ad;replace af:=Hd af;replace hB:=Hd hB;have y := s;replace al:=Hd al;replace hr:=Hd hr;replace hQ:=Hd hQ;by_cases h8:p<800
      ·have bi := ac p h8
       have v := o h8;have l:=z.put s h8;rw [af.out] at l;replace s:=Hd s;replace y := Hd y;have a0:(p:Int)<800:=by omega
       replace l:=Hd l;replace v := Hd v;replace o:=Hd o;replace ac:=Hd ac;replace z:=Hd z;replace a:=Hd a;replace hF:=Hd hF;go_wp2_with fail
       go_round
       case rel=>exact ⟨j+1,by omega,(by omega),(by rw [u.out]),(by rw [aa.out]),stF g p (dg8 r),t,v.out,by rw [ad.out];exact l.out,hF.out.setCell (fun _=>rfl) _⟩
       case measure=>simp [intOf];omega
      ·have a0:¬(p:Int)<800:=by omega
       have l:=z.skip s (by omega);rw [af.out,dg8_ne ay] at l;replace s:=Hd s;replace y := Hd y;replace o:=Hd o;replace ac:=Hd ac;replace z:=Hd z;replace a:=Hd a;replace hF:=Hd hF;by_cases hr0:r=0
       ·rw [decide_eq_false (by omega),Bool.or_false] at l
        have a9:((r:Int) != 0)=false:=by rw [hr0];rfl
        replace l:=Hd l;replace hr0:=Hd hr0;go_wp2_with fail
        go_round
        case rel=>exact ⟨j+1,by omega,(by omega),(by rw [u.out]),(by rw [aa.out]),g,t,a.out,by rw [ad.out];exact l.out,hF.out⟩
        case measure=>simp [intOf];omega
       ·rw [decide_eq_true (by omega),Bool.or_true] at l
        have a9:((r:Int) != 0)=true:=by simp;omega
        replace l:=Hd l;replace hr0:=Hd hr0;go_wp2_with fail
        go_round
        case rel=>exact ⟨j+1,by omega,(by omega),(by rw [u.out]),(by rw [aa.out]),g,true,az.out,by rw [ad.out];exact l.out,hF.out.setCell (fun _=>rfl) _⟩
        case measure=>simp [intOf];omega
     ·have a3:V=0:=by omega
      have bu:j=len:=by
       have:=ls_done bj (by rw [<-hV];exact a3);rw [<-ag.out] at this;omega
      subst a3;subst bu;rw [Nat.sub_self] at hB;obtain ⟨w1,w2⟩:=hB.whole;rw [<-hV];rw [<-hln.out] at w1;have n:lsD k d=Ge (row g (min 800 j)) (d.dp+(dl:Int)) t:=by
       have hd:(dl:Int)=(j:Int) - (nd:Int):=by omega
       unfold lsD;rw [<-w1,<-w2,<-hln.out,<-hnd.out,hd]
      replace w1:=Hd w1;replace w2:=Hd w2;have c0:=a.nd;have c1:=a.pt;have z0:=a.blk.frz 800 none;have z1:=a.blk.frz 801 none;replace hV:=Hd hV;replace n:=Hd n;replace hB:=Hd hB;clear bj hV0 bn bo cp;by_cases h8:800<=j
      ·have a0:(800:Int)<=(j:Int):=by omega
       have hm:min 800 j=800:=by omega
       have am:=((a.setN j).setN 800).setP (d.dp+(dl:Int));have an:=((hF.setCell (p:=⟨b,800,none⟩) (fun _=>rfl) (.int .i64 (j:Int))).setCell (p:=⟨b,800,none⟩) (fun _=>rfl) (.int .i64 ((800:Nat):Int))).setCell (p:=⟨b,801,none⟩) (fun _=>rfl) (.int .i64 (d.dp+(dl:Int)));have ah:=dtrim_any am (Nat.le_refl _);rw [hm] at n;rw [<-n.out] at ah;replace ah:=Hd ah;replace am:=Hd am;replace an:=Hd an;replace a:=Hd a;replace hF:=Hd hF;replace n:=Hd n;replace hm:=Hd hm;go_wp2_with fail
       refine ah.out.mono ?_;rintro e w' ⟨rfl,ao, ap⟩;replace ao := Hd ao;replace ap := Hd ap;go_wp2
       go_end0
       exact ⟨rfl,ao.out,an.out.trans ap.out⟩
      ·have a0:¬(800:Int)<=(j:Int):=by omega
       have hm:min 800 j=j:=by omega
       have am:=(a.setN j).setP (d.dp+(dl:Int));have an:=(hF.setCell (p:=⟨b,800,none⟩) (fun _=>rfl) (.int .i64 (j:Int))).setCell (p:=⟨b,801,none⟩) (fun _=>rfl) (.int .i64 (d.dp+(dl:Int)));have ah:=dtrim_any am (by omega);rw [hm] at n;rw [<-n.out] at ah;replace ah:=Hd ah;replace am:=Hd am;replace an:=Hd an;replace a:=Hd a;replace hF:=Hd hF;replace n:=Hd n;replace hm:=Hd hm;go_wp2_with fail
       refine ah.out.mono ?_;rintro e w' ⟨rfl,ao, ap⟩;replace ao := Hd ao;replace ap := Hd ap;go_wp2
       go_end0
       exact ⟨rfl,ao.out,an.out.trans ap.out⟩
theorem tail_fuel {k:Nat}:∀{g n f:Nat},TailI k g n->g<=f->Cs k f n=Cs k g n
 | 0,n,f,h,_=>by rw [h.zero rfl,Fq,Fq]
 | g+1,n,0,_,h=>absurd h (by omega)
 | g+1,n,f+1,h,hf=>by
  by_cases h0:n=0
  ·rw [h0,Fq,Fq]
  ·rw [tail_more h0,tail_more h0,tail_fuel h.next (by omega)]
theorem mask_mod {k x:Nat} (hk:k<=60) (hx:x<18446744073709551616):bits .and .u64 (x:Int) ((2 ^ k - 1:Nat):Int)=((x % 2 ^ k:Nat):Int):=by
 have h1:2 ^ k<=2 ^ 60:=Nat.pow_le_pow_right (by decide) hk;have h2:(2:Nat) ^ 60=1152921504606846976:=by decide
 have:=Cb (x:=x) (y:=2 ^ k - 1) hx (by omega);rw [Nat.and_two_pow_sub_one_eq_mod] at this;exact this
theorem right_any' {w:World} {b k:Nat} {d:Dec} {ng:Bool} (h:Dm w b d ng) (hg:d.Good) (hk1:1<=k) (hk:k<=60) (hp0:-1000000<=d.dp) (hp1:d.dp<=1000000) :
  Calls Tryz.prog 183 #[.pointer (some ⟨b,0,none⟩),.int .u64 (k:Int)] w fun e w' => e=.returned (.tuple #[])/\Dm w' b (rsD k d) ng/\Fr (fun k=>k=b) w w' := by
 obtain ⟨f,hD,au⟩:=h;obtain ⟨_,_,bi,bu,b2,b3,bv,c1,l1,c1', l1', gh,_,b4,b5,_⟩:=rs_good hg hk1 hk;obtain ⟨K,hK⟩:∃K,K=2 ^ k:=⟨_,rfl⟩;have hK2:2<=K:=by
  have:2 ^ 1<=2 ^ k:=Nat.pow_le_pow_right (by decide) hk1;rw [hK];exact this
 have hK9:K<=1152921504606846976:=by
  have:2 ^ k<=2 ^ 60:=Nat.pow_le_pow_right (by decide) hk;rw [hK];exact this
 have hKi:(2:Int) ^ k=(K:Int):=by rw [hK];simp
 have bx:=hg.len;have a4:=hg.dig;have hki:(k:Int)<=60:=by omega
 have hk64:(k:Int)<64:=by omega
 have hk0:(0:Int)<=(k:Int):=by omega
 have c0:=hD.nd;have cp:=hD.pt;obtain ⟨nd,hnd⟩:∃nd,nd=d.L.length:=⟨_,rfl⟩;rw [<-hnd] at hD c0 au bx;have hnd1:1<=nd:=by rw [hnd,gh];simp
 obtain ⟨r0,hr0⟩:∃r0,r0=(rsP k d).2.1+(rsF k d).2:=⟨_,rfl⟩;obtain ⟨N0,hN0⟩:∃N0,N0=(rsF k d).1:=⟨_,rfl⟩;rw [<-hr0] at bi bu;rw [<-hN0,<-hK] at b3 bv;have hr01:1<=r0:=Nat.le_trans (Et (Nat.two_pow_pos k)).1 bi;have bl:r0<=20:=by
  have:Lib.nDigits (2 ^ k)<=19:=by
   refine Da (Nat.two_pow_pos k) ?_;rw [<-hK];have:(1152921504606846976:Nat)<10 ^ 19:=by decide
   omega
  omega
 have a5:∀i (hi:i<d.L.length),f i=d.L[i]:=fun i hi=>row_at (by rw [<-hnd];exact au) hi;replace a5:=Hd a5;replace hD:=Hd hD;replace au:=Hd au;replace a4:=Hd a4;replace hg:=Hd hg;replace hnd:=Hd hnd;replace hr0:=Hd hr0;replace hN0:=Hd hN0;replace hK:=Hd hK;replace gh:=Hd gh;clear bi bu b2
 go_enter Tryz.func183,Tryz.ntmps183
 go_upto_block 0 with fail
 go_cut [4,6] from 14 to 48 (fun s4 s6 wx=>s4=.int .i64 (r0:Int)/\s6=.int .u64 (N0:Int)/\wx=w/\d.L.drop r0=(rsP k d).2.2)
 case first=>
  go_wp2_with fail
  go_loop [4,6] (fun s4 s6=>∃j N:Nat,j<=nd/\s4=.int .i64 (j:Int)/\s6=.int .u64 (N:Int)/\(j=0/\N=0\/0<N)/\N<10 * K/\rsP k d=((A8 k N (d.L.drop j)).1,j+(A8 k N (d.L.drop j)).2.1,(A8 k N (d.L.drop j)).2.2)) (fun s4 _=>nd+1 - (intOf s4).toNat)
  case atStart=>exact ⟨0,0,Nat.zero_le _,rfl,rfl,.inl ⟨rfl,rfl⟩,by omega,by unfold rsP;simp⟩
  case round=>
   obtain ⟨j,N,hj,rfl,rfl,av,b6,hP⟩:=hrel;have l:(N:Int) / (K:Int)=((N / K:Nat):Int):=by simp
   by_cases hst:N / K=0
   ·have hdiv0:(N:Int) / (K:Int)=0:=by rw [l,hst];rfl
    have hNK:N<K:=by
     rcases Nat.lt_or_ge N K with h9 | h9
     ·exact h9
     ·have:=Nat.div_pos h9 (by omega);omega
    rw [hK.out] at hst;clear l;by_cases hjn:j<nd
    ·have a6:j<d.L.length:=by rw [<-hnd.out];exact hjn
     have hjni:(j:Int)<(nd:Int):=by omega
     obtain ⟨c,hc⟩:∃c,c=d.L[j]:=⟨_,rfl⟩;have aa:isD c=true:=by rw [hc];exact a4.out _ (List.getElem_mem a6)
     have bb:=Gd aa;have ax:48<=c.toNat/\c.toNat<=57:=by unfold isD at aa;simpa using aa
     have s:=hD.out.dig j (by omega);rw [a5.out j a6,<-hc] at s;rw [List.drop_eq_getElem_cons a6,<-hc,pick_more hst] at hP;dsimp only at hP;obtain ⟨dd,hdd⟩:∃dd,dd=dv c:=⟨_,rfl⟩;rw [<-hdd] at hP bb;have bm:(N:Int) * 10+(c.toNat:Int) - 48=((N * 10+dd:Nat):Int):=by rw [hdd];unfold dv;omega
     obtain ⟨N', hN'⟩:∃N', N' = N * 10+dd:=⟨_,rfl⟩;rw [<-hN'] at hP bm;have ab : 0<N' := by
      rcases av with ⟨e1,e2⟩ | e
      ·have h1:=List.getElem?_eq_getElem a6
       rw [<-hc] at h1;rw [e1,gh.out] at h1;have h2:c1=c:=Option.some.inj h1;rw [hN', hdd,<-h2];omega
      ·omega
     have bc:rsP k d=((A8 k N' (d.L.drop (j+1))).1,(j+1)+(A8 k N' (d.L.drop (j+1))).2.1,(A8 k N' (d.L.drop (j+1))).2.2):=by
      rw [hP];congr 2;omega
     replace hP:=Hd hP;replace bc:=Hd bc;replace hdd:=Hd hdd;have ah:N' < 10 * K:=by omega
     replace hN' := Hd hN';replace hc:=Hd hc;replace hst:=Hd hst;have hj8:(j:Int)<800:=by omega
     clear av aa;go_wp2_with fail
     go_round
     case rel=>exact ⟨j+1,N', by omega,by go_num,rfl,.inr ab, ah,bc.out⟩
     case measure=>simp [intOf];omega
    ·have ay : j=nd:=by omega
     have ab : 0<N:=by omega
     have ai:d.L.drop j=[]:=List.drop_eq_nil_of_le (by rw [<-hnd.out];omega);rw [ai] at hP;have az:rsP k d=(N,j,[]):=hP;have bd:rsF k d=Cw k 20 N:=by unfold rsF;rw [az]
     have hjge:(nd:Int)<=(j:Int):=by omega
     have aj : ((N:Int) == 0)=false:=by simp;omega
     have a0:2 ^ k<=N * 10 ^ 20:=ten_fill hk ab;replace a0:=Hd a0;replace hP:=Hd hP;replace az:=Hd az;replace bd:=Hd bd;replace ai:=Hd ai;replace hst:=Hd hst;replace ay := Hd ay;clear av;go_wp2_with fail
     go_loop [4,6] (fun s4 s6=>∃i M fu:Nat,i+fu=20/\s4=.int .i64 ((j+i:Nat):Int)/\s6=.int .u64 (M:Int)/\0<M/\M<10 * K/\2 ^ k<=M * 10 ^ fu/\rsF k d=((Cw k fu M).1,i+(Cw k fu M).2)) (fun s4 _=>nd+30 - (intOf s4).toNat)
     case atStart=>exact ⟨0,N,20,rfl,rfl,rfl,ab, b6,a0.out,by rw [bd.out];simp⟩
     case round=>
      obtain ⟨i,M,fu,hifu,rfl,rfl,hM,hM9,am,hF⟩:=hrel;have l:(M:Int) / (K:Int)=((M / K:Nat):Int):=by simp
      have ak:=ay.out;by_cases hs2:M / K=0
      ·have hd0:(M:Int) / (K:Int)=0:=by rw [l,hs2];rfl
       have hMK:M<K:=by
        rcases Nat.lt_or_ge M K with h9 | h9
        ·exact h9
        ·have:=Nat.div_pos h9 (by omega);omega
       rw [hK.out] at hs2;rcases fu with _ | fu
       ·exfalso
        rw [Nat.pow_zero,Nat.mul_one,<-hK.out] at am;omega
       ·rw [fill_more hs2] at hF
        dsimp only at hF;have a1 : 2 ^ k<=M * 10 * 10 ^ fu:=by
         rw [Nat.pow_succ,Nat.mul_comm (10 ^ fu),<-Nat.mul_assoc] at am;exact am
        have be : rsF k d=((Cw k fu (M * 10)).1,(i+1)+(Cw k fu (M * 10)).2):=by rw [hF];congr 1;omega
        replace hF:=Hd hF;replace be := Hd be;replace am:=Hd am;replace a1 := Hd a1;replace hs2:=Hd hs2;replace ak:=Hd ak;clear l;go_wp2_with fail
        go_round
        case rel=>exact ⟨i+1,M * 10,fu,by omega,by go_num,by go_num,by omega,by omega,a1.out,be.out⟩
        case measure=>have:=ak.out;simp [intOf];omega
      ·have hdn:((M:Int) / (K:Int) == 0)=false:=by rw [l];simp;omega
       have a2 := hs2;rw [hK.out] at a2;rw [fill_stop a2] at hF;dsimp only at hF;have e1:r0=j+i:=by rw [hr0.out,hF,az.out];rfl
       have e2:N0=M:=by rw [hN0.out,hF]
       have e3:d.L.drop r0=(rsP k d).2.2:=by rw [az.out,e1,<-List.drop_drop,ai.out];simp
       replace hF:=Hd hF;replace e1:=Hd e1;replace e2:=Hd e2;replace e3:=Hd e3;replace am:=Hd am;replace ak:=Hd ak;clear l a2;go_wp2_with fail
       go_meet
       exact ⟨by rw [e1.out];simp,by rw [e2.out],rfl,e3.out⟩
   ·have hdivn:((N:Int) / (K:Int) == 0)=false:=by rw [l];simp;omega
    have ao := hst;rw [hK.out] at ao;rw [pick_stop ao] at hP;have hF:rsF k d=(N,0):=by unfold rsF;rw [hP];exact fill_stop ao
    have e1:r0=j:=by rw [hr0.out,hF,hP];rfl
    have e2:N0=N:=by rw [hN0.out,hF]
    have e3:d.L.drop r0=(rsP k d).2.2:=by rw [hP,e1]
    replace hP:=Hd hP;replace hF:=Hd hF;replace e1:=Hd e1;replace e2:=Hd e2;replace e3:=Hd e3;clear l ao av;go_wp2_with fail
    go_meet
    exact ⟨by rw [e1.out],by rw [e2.out],rfl,e3.out⟩
 case rest=>
  obtain ⟨rfl,rfl,bw,an⟩:=hcut;obtain rfl:=bw.symm;clear bw gh b4 b5;obtain ⟨dq,hdq⟩:∃dq:Int,dq=d.dp - ((r0:Int) - 1):=⟨_,rfl⟩;have hdq2:d.dp - ((r0:Int) - 1)=dq:=hdq.symm;have hdq9:-2000000<=dq/\dq<=2000000:=by omega
  obtain ⟨M,hM⟩:∃M,M=K - 1:=⟨_,rfl⟩;have hMi:(K:Int) - 1=(M:Int):=by omega
  have ac:∀x:Nat,x<18446744073709551616->bits .and .u64 (x:Int) (M:Int)=((x % K:Nat):Int):=fun x hx=>by
   have:=mask_mod hk hx;rw [<-hK.out] at this;rw [hM];exact this
  have ap:rsO k d=(outR k N0 (d.L.drop r0)).1++Cs k (k+2) (outR k N0 (d.L.drop r0)).2:=by unfold rsO;rw [<-hN0.out,an]
  have z1:=hD.out.blk.frz 801 none;have bn:=Hd (hD.out.setP dq);have a7:Fr (fun k=>k=b) w (w.setCell ⟨b,801,none⟩ (.int .i64 dq)):=Fr.setCell (S:=fun k=>k=b) (Fr.refl _ _) (fun _=>rfl) _;replace hdq:=Hd hdq;replace hM:=Hd hM;replace ac:=Hd ac;replace ap:=Hd ap;replace a7:=Hd a7;replace an:=Hd an;go_wp2_with fail
  go_loopw [4,5,6] (fun s4 s5 s6 wr=>∃p r N:Nat,s4=.int .i64 (r:Int)/\s5=.int .i64 (p:Int)/\s6=.int .u64 (N:Int)/\p<r/\N<10 * K/\(r<=nd\/r<=20)/\(p=0\/p<nd) /\
    ∃g P,P.length=p/\row g p=P/\(∀i,p<=i->g i=f i)/\rsO k d=P++(outR k N (d.L.drop r)).1++Cs k (k+2) (outR k N (d.L.drop r)).2/\DM wr b g nd dq ng d.tr/\Fr (fun k=>k=b) w wr) (fun s4 _ _ _=>nd - (intOf s4).toNat)
  case atStart=>exact ⟨0,r0,N0,rfl,rfl,rfl,by omega,bv,.inr bl,.inl rfl,f,[],rfl,rfl,fun _ _=>rfl,by rw [ap.out];rfl,bn.out,a7.out⟩
  case round=>
   obtain ⟨p,r,N,rfl,rfl,rfl,hpr,ah,hr9,br,g,P,aw,u,v,hO,a,hF⟩:=hrel;clear bn a7 ap;have c0:=a.nd;by_cases hrn:r<nd
   ·have bf:r<d.L.length:=by rw [<-hnd.out];exact hrn
    have bo:(r:Int)<(nd:Int):=by omega
    have hr8:(r:Int)<800:=by omega
    have hp8:(p:Int)<800:=by omega
    obtain ⟨c,hc⟩:∃c,c=d.L[r]:=⟨_,rfl⟩;have aa:isD c=true:=by rw [hc];exact a4.out _ (List.getElem_mem bf)
    have bb:=Gd aa;have ax:48<=c.toNat/\c.toNat<=57:=by unfold isD at aa;simpa using aa
    have s:=a.dig r (by omega);rw [v r (by omega),a5.out r bf,<-hc] at s;have bz:=a.dig p (by omega);have zp:=a.blk.frz p none;obtain ⟨q,hq⟩:∃q,q=N / K:=⟨_,rfl⟩;obtain ⟨m,hm⟩:∃m,m=N % K:=⟨_,rfl⟩;have l:(N:Int) / (K:Int)=(q:Int):=by rw [hq];simp
    have aq:q<10:=by rw [hq];exact (Nat.div_lt_iff_lt_mul (by omega)).2 ah
    have b0:m<K:=by rw [hm];exact Nat.mod_lt _ (by omega)
    have bp:bits .and .u64 (N:Int) (M:Int)=(m:Int):=by rw [hm];exact ac.out N (by omega)
    obtain ⟨N', hN'⟩:∃N', N' = m * 10+dv c:=⟨_,rfl⟩;have hnx:(m:Int) * 10+(c.toNat:Int) - 48=(N' : Int):=by rw [hN'];unfold dv;omega
    have bq:N' < 10 * K:=by omega
    have y5:(q:Int)+48=((dg8 q).toNat:Int):=by unfold dg8;rw [C6 aq];omega
    have ad:rsO k d=(P++[dg8 q])++(outR k N' (d.L.drop (r+1))).1++Cs k (k+2) (outR k N' (d.L.drop (r+1))).2:=by
     rw [hO,List.drop_eq_getElem_cons bf,<-hc,outR];rw [hK.out] at hq hm;rw [<-hq,<-hm,<-hN'];dsimp only;rw [List.append_assoc P [dg8 q],List.singleton_append]
    have a3:=Hd (a.put (i:=p) (by omega) (dg8 q));have ae:row (stF g p (dg8 q)) (p+1)=P++[dg8 q]:=by rw [row_put,u]
    have af:∀i,p+1<=i->stF g p (dg8 q) i=f i:=fun i hi=>by rw [stF_ne g _ (by omega)];exact v i (by omega)
    replace s:=s;replace hO:=Hd hO;replace ad:=Hd ad;replace u:=Hd u;replace ae:=Hd ae;replace v:=Hd v;replace af:=Hd af;replace a:=Hd a;replace hF:=Hd hF;replace hq:=Hd hq;replace hm:=Hd hm;replace hc:=Hd hc;replace hN' := Hd hN';replace aw:=Hd aw;clear aa ax bb;go_wp2_with fail
    go_round
    case rel=>exact ⟨p+1,r+1,N', by go_num,by go_num,rfl,by omega,bq,.inl (by omega),.inr (by omega),stF g p (dg8 q),P++[dg8 q],by rw [List.length_append,aw.out];rfl,ae.out,af.out,ad.out,a3.out,hF.out.setCell (fun _=>rfl) _⟩
    case measure=>simp [intOf];omega
   ·have bo:¬(r:Int)<(nd:Int):=by omega
    have ai:d.L.drop r=[]:=List.drop_eq_nil_of_le (by rw [<-hnd.out];omega);rw [ai,outR,List.append_nil] at hO;dsimp only at hO;have ar:Front P g d.tr d.tr p:=by
     refine ⟨by omega,?_,?_⟩
     ·rw [u,List.take_of_length_le (by omega)]
     ·rw [List.drop_eq_nil_of_le (by omega)];simp
    have a8:TailI k (k+2) N:=.start (by rw [<-hK.out];exact ah);replace hO:=Hd hO;replace ar:=Hd ar;replace a8:=Hd a8;replace a:=Hd a;replace hF:=Hd hF;replace ai:=Hd ai;replace aw:=Hd aw;clear u v;go_wp2_with fail
    go_loopw [5,6] (fun s5 s6 wx=>∃p N fu:Nat,s5=.int .i64 (p:Int)/\s6=.int .u64 (N:Int)/\TailI k fu N /\
      ∃g P t,Front P g d.tr t p/\rsO k d=P++Cs k fu N/\DM wx b g nd dq ng t/\Fr (fun k=>k=b) w wx) (fun _ s6 _=>(Cs k 100 (intOf s6).toNat).length)
    case atStart=>exact ⟨p,N,k+2,rfl,rfl,a8.out,g,P,d.tr,ar.out,hO.out,a.out,hF.out⟩
    case round=>
     clear a hF ar a8 c0 hO aw ah;obtain ⟨p,N,fu,rfl,rfl,z,g,P,t,y,hO,a,hF⟩:=hrel;have ah:=z.lt;rw [<-hK.out] at ah;have br:p<=800:=by have:=y.len;omega
     by_cases aj : N=0
     ·subst aj
      rw [Fq,List.append_nil] at hO;have hz:((0:Nat):Int)=0:=rfl;have ag:rsD k d=Ge (row g p) dq t:=by
       unfold rsD;rw [hO,<-y.row,<-y.cut];congr 1;rw [hdq.out,<-hr0.out];omega
      have c0:=a.nd;have zn:=a.blk.frz 800 none;have a9:=dtrim_any (a.setN p) br;have bg:=Fr.setCell (p:=⟨b,800,none⟩) hF (fun _=>rfl) (.int .i64 (p:Int));rw [<-ag] at a9;replace ag:=Hd ag;replace a9:=Hd a9;replace bg:=Hd bg;replace y:=Hd y;replace hO:=Hd hO;replace z:=Hd z;replace a:=Hd a;replace hF:=Hd hF;go_wp2_with fail
      refine a9.out.mono ?_;rintro e w' ⟨rfl,bj, bk⟩;replace bj := Hd bj;replace bk := Hd bk;go_wp2
      go_end0
      exact ⟨rfl,bj.out,bg.out.trans bk.out⟩
     ·have hNpos:(0:Int)<(N:Int):=by omega
      rcases fu with _ | fu
      ·exact absurd (z.zero rfl) aj
      rw [tail_more aj] at hO;have al:=z.next;have o:(Cs k 100 (N % 2 ^ k * 10)).length<(Cs k 100 N).length:=by
       rw [tail_fuel z (by have:=z.le;omega),tail_fuel al (by have:=z.le;omega),tail_more aj, List.length_cons];omega
      obtain ⟨q,hq⟩:∃q,q=N / K:=⟨_,rfl⟩;obtain ⟨m,hm⟩:∃m,m=N % K:=⟨_,rfl⟩;have l:(N:Int) / (K:Int)=(q:Int):=by rw [hq];simp
      have aq:q<10:=by rw [hq];exact (Nat.div_lt_iff_lt_mul (by omega)).2 ah
      have b0:m<K:=by rw [hm];exact Nat.mod_lt _ (by omega)
      have bp:bits .and .u64 (N:Int) (M:Int)=(m:Int):=by rw [hm];exact ac.out N (by omega)
      have bh:N / 2 ^ k=q:=by rw [hq,hK.out]
      have ba:N % 2 ^ k=m:=by rw [hm,hK.out]
      rw [bh,ba] at hO;rw [ba] at al o;have ad:rsO k d=(P++[dg8 q])++Cs k fu (m * 10):=by rw [hO,List.append_assoc,List.singleton_append]
      have y5:(q:Int)+48=((dg8 q).toNat:Int):=by unfold dg8;rw [C6 aq];omega
      replace hO:=Hd hO;replace ad:=Hd ad;replace al:=Hd al;replace z:=Hd z;replace o:=Hd o;replace hq:=Hd hq;replace hm:=Hd hm;replace bh:=Hd bh;replace ba:=Hd ba;by_cases h8:p<800
      ·have b1:(p:Int)<800:=by omega
       have bz:=a.dig p h8;have zp:=a.blk.frz p none;have a3:=Hd (a.put (i:=p) h8 (dg8 q));have n:=Hd (y.put h8 (dg8 q));replace y:=Hd y;replace a:=Hd a;replace hF:=Hd hF;go_wp2_with fail
       go_round
       case rel=>exact ⟨p+1,m * 10,fu,by go_num,by go_num,al.out,stF g p (dg8 q),P++[dg8 q],t,n.out,ad.out,a3.out,hF.out.setCell (fun _=>rfl) _⟩
       case measure=>
        simp [intOf];rw [show ((m:Int) * 10).toNat=m * 10 by omega];exact o.out
      ·have b1:¬(p:Int)<800:=by omega
       have n:=y.skip (by omega) (dg8 q);rw [dg8_ne aq] at n;have hct:=a.cut;have zt:=a.blk.frz 803 none;have bs:=Hd (a.setT true);replace y:=Hd y;replace a:=Hd a;replace hF:=Hd hF;by_cases hq0:0<q
       ·have bt:(0:Int)<(q:Int):=by omega
        rw [decide_eq_true hq0,Bool.or_true] at n;replace n:=Hd n;go_wp2_with fail
        go_round
        case rel=>exact ⟨p,m * 10,fu,rfl,by go_num,al.out,g,P++[dg8 q],true,n.out,ad.out,bs.out,hF.out.setCell (fun _=>rfl) _⟩
        case measure=>
        simp [intOf];rw [show ((m:Int) * 10).toNat=m * 10 by omega];exact o.out
       ·have bt:¬(0:Int)<(q:Int):=by omega
        rw [decide_eq_false hq0,Bool.or_false] at n;replace n:=Hd n;go_wp2_with fail
        go_round
        case rel=>exact ⟨p,m * 10,fu,rfl,by go_num,al.out,g,P++[dg8 q],t,n.out,ad.out,a.out,hF.out⟩
        case measure=>
        simp [intOf];rw [show ((m:Int) * 10).toNat=m * 10 by omega];exact o.out
theorem shiftL_any {w0 w:World} {b k:Nat} {d:Dec} {ng:Bool} (hw:Dn w0 w b) (h:Dm w b d ng) (hg:d.Good) (hk1:1<=k) (hk:k<=60) (hp0:-1000000<=d.dp) (hp1:d.dp<=1000000) :
  Calls Tryz.prog 147 #[.pointer (some ⟨b,0,none⟩),.int .i64 (k:Int)] w fun e w' => e=.returned (.tuple #[])/\Dm w' b (lsD k d) ng/\Fr (fun k=>k=b) w w' := by
 have hL:=dleft_any hw h hg hk1 hk hp0 hp1;obtain ⟨f,hD,a⟩:=h;have c0:=hD.nd;have c:=hg.val.2;have g:((d.L.length:Int) == 0)=false:=by rw [beq_eq_false_iff_ne];omega
 have hk0:(0:Int)<(k:Int):=by omega
 have hk60:¬(60:Int)<(k:Int):=by omega
 obtain ⟨nd,hndd⟩:∃nd,nd=d.L.length:=⟨_,rfl⟩;rw [<-hndd] at g c0;replace hL:=Hd hL;replace hndd:=Hd hndd;clear hD a hg hw c
 go_enter Tryz.func147,Tryz.ntmps147
 go_wp2_with fail
 go_loop [1] (fun s1=>s1=.int .i64 (k:Int)) (fun _=>0)
 case atStart=>rfl
 case round=>
  obtain rfl:=hrel;go_wp2_with fail
  refine hL.out.mono ?_;rintro e w' ⟨rfl,h2⟩;replace h2:=Hd h2;go_wp2
  go_end0
  exact ⟨rfl,h2.out⟩
theorem shiftR_any {w:World} {b f n:Nat} {d:Dec} {ng:Bool} (h:Dm w b d ng) (hg:d.Good) (h1:1<=n) (hf:n<=60 * (f+1)) (hn:n<=200000) (hp0:-500000<=d.dp) (hp1:d.dp<=500000) (hfl:f<=20000) :
  Calls Tryz.prog 147 #[.pointer (some ⟨b,0,none⟩),.int .i64 (-(n:Int))] w fun e w' => e=.returned (.tuple #[])/\Dm w' b (shR f n d) ng/\Fr (fun k=>k=b) w w' := by
 have hD:=h;obtain ⟨g,p,q⟩:=hD;have c0:=p.nd;have r:=hg.val.2;have s:((d.L.length:Int) == 0)=false:=by rw [beq_eq_false_iff_ne];omega
 have hk0:-(n:Int)<0:=by omega
 have hk1:¬(0:Int) < -(n:Int):=by omega
 obtain ⟨nd,hndd⟩:∃nd,nd=d.L.length:=⟨_,rfl⟩;rw [<-hndd] at s c0;obtain ⟨R,hR⟩:∃R,R=shR f n d:=⟨_,rfl⟩;rw [<-hR];replace h:=Hd h;replace hR:=Hd hR;replace hndd:=Hd hndd;replace hg:=Hd hg;clear p q r
 go_enter Tryz.func147,Tryz.ntmps147
 go_wp2_with fail
 go_loopw [1] (fun s1 wr=>∃(m e:Nat) (d' : Dec),s1=.int .i64 (-(m:Int))/\1<=m/\m<=n/\e<=f/\m<=60 * (e+1)/\d'.Good/\d'.dp<=d.dp/\d.dp - 20 * ((f:Int) - e)<=d'.dp/\shR e m d' = R/\Dm wr b d' ng/\Fr (fun k=>k=b) w wr) (fun s1 _=>(-(intOf s1)).toNat)
 case atStart=>exact ⟨n,f,d,rfl,h1,Nat.le_refl _,Nat.le_refl _,hf,hg.out,Int.le_refl _,by omega,hR.out.symm,h.out,Fr.refl _ _⟩
 case round=>
  obtain ⟨m,e,d', rfl,t,hmn,hef,hme,c, hq1,hq2,a, i, hF⟩:=hrel;replace i := Hd i;replace hF:=Hd hF;replace c := Hd c;by_cases h60:60<m
  ·have o:-(m:Int) < -60:=by omega
   rcases e with _ | e
   ·omega
   rw [shR,if_pos h60] at a;have hr:=right_any' i.out c.out (k:=60) (by decide) (by decide) (by omega) (by omega);obtain ⟨g1,g2,g3⟩:=rs_dp c.out (k:=60) (by decide) (by decide);obtain ⟨m', hm'⟩:∃m', m' = m - 60:=⟨_,rfl⟩;have hmi:-(m:Int)+60=-(m' : Int):=by omega
   rw [<-hm'] at a;replace hm' := Hd hm';replace hr:=Hd hr;replace a := Hd a;replace g1:=Hd g1;go_wp2_with fail
   refine hr.out.mono ?_;rintro x w2 ⟨rfl,h2,h3⟩;have j:=Hd (hF.out.trans h3);replace h2:=Hd h2;clear h3;go_wp2_with fail
   go_round
   case rel=>exact ⟨m', e,rsD 60 d', rfl,by have:=hm'.out;omega,by have:=hm'.out;omega,by omega,by have:=hm'.out;omega,g1.out,by omega,by omega,a.out,h2.out,j.out⟩
   case measure=>have:=hm'.out;simp [intOf];omega
  ·have o:¬-(m:Int) < -60:=by omega
   have l:rsD m d' = R:=by
    rw [<-a];cases e with
    | zero=>rfl
    | succ e=>rw [shR,if_neg h60]
   have hr:=right_any' i.out c.out (k:=m) t (by omega) (by omega) (by omega);rw [l] at hr;replace hr:=Hd hr;replace a := Hd a;replace l:=Hd l;go_wp2_with fail
   refine hr.out.mono ?_;rintro x w2 ⟨rfl,h2,h3⟩;have j:=Hd (hF.out.trans h3);replace h2:=Hd h2;clear h3;go_wp2
   go_end0
   exact ⟨rfl,h2.out,j.out⟩
theorem roundUp_any {w:World} {b:Nat} {d:Dec} {ng:Bool} {nd:Int} (h:Dm w b d ng) (hg:d.Good) (h0:-1000000<=nd) (h1:nd<=1000000) :
  Calls Tryz.prog 184 #[.pointer (some ⟨b,0,none⟩),.int .i64 nd] w fun e w' => e=.returned (.bool (upQ d nd))/\w' = w:=by
 obtain ⟨g,hD,m⟩:=h;have c0:=hD.nd;have c3:=hD.cut;have r:=hg.len;have n:=hg.dig;obtain ⟨len,hlen⟩:∃len,len=d.L.length:=⟨_,rfl⟩;obtain ⟨tr,htr⟩:∃tr,tr=d.tr:=⟨_,rfl⟩;rw [<-hlen] at c0 r;rw [<-htr] at c3;have f:∀i (hi:i<d.L.length),w.cell? ⟨b,i,none⟩=some (.int .u8 ((d.L[i]).toNat:Int)):=fun i hi=>by rw [<-row_at m hi];exact hD.dig i (by omega)
 replace f:=Hd f;replace n:=Hd n;clear hD m hg;by_cases hneg:nd<0
 ·have hU:upQ d nd=false:=by unfold upQ;rw [if_pos (.inl hneg)]
  rw [hU];replace hU:=Hd hU;replace hlen:=Hd hlen;replace htr:=Hd htr
  go_enter Tryz.func184,Tryz.ntmps184
  go_wp2;go_ret;exact ⟨rfl,rfl⟩
 obtain ⟨i,rfl⟩:∃i:Nat,nd=i:=⟨nd.toNat,by omega⟩;have hneg' : decide ((i:Int)<0)=false:=decide_eq_false hneg;by_cases hge:len<=i
 ·have hU:upQ d i=false:=by unfold upQ;rw [if_pos (.inr (by rw [<-hlen];omega))]
  have o:(len:Int)<=(i:Int):=by omega
  rw [hU];replace hU:=Hd hU;replace hlen:=Hd hlen;replace htr:=Hd htr
  go_enter Tryz.func184,Tryz.ntmps184
  go_wp2;go_ret;exact ⟨rfl,rfl⟩
 have p:i<d.L.length:=by rw [<-hlen];omega
 have o:¬(len:Int)<=(i:Int):=by omega
 obtain ⟨c,hc⟩:∃c,c=d.L[i]:=⟨_,rfl⟩;have s:=f.out i p;rw [<-hc] at s;have a:upQ d i=if c=53/\i+1=len then (if tr then true else decide (0<i) && decide (dv (d.L.getD (i - 1) 0) % 2=1)) else decide (53<=c.toNat):=by
  unfold upQ;rw [if_neg (by rw [<-hlen];omega),Int.toNat_natCast,getD_at p,<-hc,<-htr,<-hlen,show ((i:Int) - 1).toNat=i - 1 by omega];have e1:((i:Int)+1=(len:Int)) ↔ (i+1=len):=by omega
  have e2:((0:Int)<(i:Int)) ↔ (0<i):=by omega
  simp only [e1,e2]
 have hi8:(i:Int)<800:=by omega
 by_cases h53:c=53
 ·have t:((c.toNat:Int) == 53)=true:=by rw [h53];rfl
  have hcv:(c.toNat:Int)=53:=by rw [h53];rfl
  by_cases hlast:i+1=len
  ·have u:(((i:Int)+1) == (len:Int))=true:=by rw [beq_iff_eq];omega
   rw [if_pos ⟨h53,hlast⟩] at a;cases htc:tr with
   | true=>
    rw [htc] at a c3;simp only [if_true] at a;rw [a];replace a:=Hd a;replace hlen:=Hd hlen;replace htr:=Hd htr;replace htc:=Hd htc;replace hc:=Hd hc;replace h53:=Hd h53;replace hlast:=Hd hlast
    go_enter Tryz.func184,Tryz.ntmps184
    go_wp2;go_ret;exact ⟨rfl,rfl⟩
   | false=>
    rw [htc] at a c3;simp only [Bool.false_eq_true,if_false] at a;rw [a];by_cases hi0:i=0
    ·have q:¬(0:Int)<(i:Int):=by omega
     rw [decide_eq_false (show ¬0<i by omega),Bool.false_and];replace a:=Hd a;replace hlen:=Hd hlen;replace htr:=Hd htr;replace htc:=Hd htc;replace hc:=Hd hc;replace h53:=Hd h53;replace hlast:=Hd hlast;replace hi0:=Hd hi0
     go_enter Tryz.func184,Tryz.ntmps184
     go_wp2;go_ret;exact ⟨rfl,rfl⟩
    ·have q:(0:Int)<(i:Int):=by omega
     have k:i - 1<d.L.length:=by omega
     obtain ⟨j,hj⟩:∃j,j=i - 1:=⟨_,rfl⟩;rw [<-hj] at k;obtain ⟨c', hc'⟩:∃c', c' = d.L[j]:=⟨_,rfl⟩;have y:=f.out j k;rw [<-hc'] at y;have l : isD c' = true:=by rw [hc'];exact n.out _ (List.getElem_mem k)
     have z:48<=c'.toNat/\c'.toNat<=57:=by unfold isD at l; simpa using l
     rw [decide_eq_true (show 0<i by omega),Bool.true_and,<-hj,getD_at k,<-hc'];have hji:(i:Int) - 1=(j:Int):=by omega
     obtain ⟨v,hv⟩:∃v,v=dv c' := ⟨_,rfl⟩;have hv2:(c'.toNat:Int) - 48=(v:Int):=by rw [hv];unfold dv;omega
     have hv9:v<=9:=by rw [hv];exact Gd l
     obtain ⟨ρ,hρ⟩:∃ρ,ρ=v % 2:=⟨_,rfl⟩;have ht1:(v:Int).tmod 2=(ρ:Int):=by rw [Int.tmod_eq_emod_of_nonneg (by omega)];omega
     have ht2:(v:Int) % 2=(ρ:Int):=by omega
     have hρ1:ρ<=1:=by omega
     obtain ⟨B,hB⟩:∃B,B=decide (ρ=1):=⟨_,rfl⟩;have hb:((ρ:Int) != 0)=B:=by
      rw [hB];rcases Nat.lt_or_ge ρ 1 with h9 | h9
      ·have:ρ=0:=by omega
       rw [this];rfl
      ·have:ρ=1:=by omega
       rw [this];rfl
     rw [<-hv,<-hρ,<-hB];replace a:=Hd a;replace hlen:=Hd hlen;replace htr:=Hd htr;replace htc:=Hd htc;replace hc:=Hd hc;replace hc' := Hd hc';replace h53:=Hd h53;replace hlast:=Hd hlast;replace hj:=Hd hj;replace hv:=Hd hv;replace hρ:=Hd hρ;replace hB:=Hd hB;clear hi0 l z
     go_enter Tryz.func184,Tryz.ntmps184
     go_wp2;go_ret;exact ⟨rfl,rfl⟩
  ·have u:(((i:Int)+1) == (len:Int))=false:=by rw [beq_eq_false_iff_ne];omega
   rw [if_neg (fun e=>hlast e.2)] at a;rw [a,h53];replace a:=Hd a;replace hlen:=Hd hlen;replace htr:=Hd htr;replace hc:=Hd hc;replace h53:=Hd h53;clear hlast
   go_enter Tryz.func184,Tryz.ntmps184
   go_wp2;go_ret;exact ⟨rfl,rfl⟩
 ·have t:((c.toNat:Int) == 53)=false:=by
   rw [beq_eq_false_iff_ne];exact fun e=>h53 (UInt8.toNat_inj.1 (show c.toNat=53 by omega))
  rw [if_neg (fun e=>h53 e.1)] at a;rw [a];obtain ⟨B,hB⟩:∃B,B=decide (53<=c.toNat):=⟨_,rfl⟩;have hb:decide ((53:Int)<=(c.toNat:Int))=B:=by rw [hB];simp;omega
  rw [<-hB];replace a:=Hd a;replace hlen:=Hd hlen;replace htr:=Hd htr;replace hc:=Hd hc;replace hB:=Hd hB;clear h53
  go_enter Tryz.func184,Tryz.ntmps184
  go_wp2;go_ret;exact ⟨by rw [<-hb];simp,rfl⟩
theorem rounded_any {w:World} {b:Nat} {d:Dec} {ng:Bool} (h:Dm w b d ng) (hg:d.Good) (h0:-1000000<=d.dp) (h1:d.dp<=16) :
  Calls Tryz.prog 240 #[.pointer (some ⟨b,0,none⟩)] w fun e w' => e=.returned (.int .u64 (rndI d:Int))/\w' = w:=by
 have t:=roundUp_any h hg h0 (by omega);obtain ⟨g,hD,af⟩:=h;have c0:=hD.nd;have cp:=hD.pt;have hn8:=hg.len;have aa:=hg.dig;obtain ⟨len,hlen⟩:∃len,len=d.L.length:=⟨_,rfl⟩;obtain ⟨P,hP⟩:∃P,P=d.dp.toNat:=⟨_,rfl⟩;obtain ⟨dp,hdp⟩:∃dp,dp=d.dp:=⟨_,rfl⟩;obtain ⟨U,hU⟩:∃U,U=upQ d d.dp:=⟨_,rfl⟩;obtain ⟨M,hM⟩:∃M,M=min P len:=⟨_,rfl⟩;have hP16:P<=16:=by omega
 have ab:(dp<0/\P=0)\/dp=(P:Int):=by omega
 have u:rndI d=valD (d.L.take M) * 10 ^ (P - M)+U.toNat:=by
  unfold rndI;rw [<-hP,<-hU,<-hlen];congr 2
  ·rw [hM,hlen]
   rcases Nat.le_total P d.L.length with h9 | h9
   ·rw [Nat.min_eq_left h9]
   ·rw [Nat.min_eq_right h9,List.take_of_length_le h9,List.take_of_length_le (Nat.le_refl _)]
  ·rw [hM];congr 1;omega
 have n:∀i (hi:i<d.L.length),w.cell? ⟨b,i,none⟩=some (.int .u8 ((d.L[i]).toNat:Int)):=fun i hi=>by rw [<-row_at af hi];exact hD.dig i (by omega)
 have p:∀i,i<=M->valD (d.L.take i)<10 ^ i:=fun i hi=>by
  have:=Du (l:=d.L.take i) (fun c hc=>aa c (List.mem_of_mem_take hc));rwa [List.length_take,Nat.min_eq_left (by omega)] at this
 have q:∀i,i<=16->10 ^ i<=10000000000000000:=fun i hi=>by
  have:10 ^ i<=10 ^ 16:=Nat.pow_le_pow_right (by decide) hi;exact this
 rw [u];rw [<-hU,<-hdp] at t;rw [<-hlen] at c0;rw [<-hdp] at cp;have h20:¬(20:Int)<dp:=by omega
 replace n:=Hd n;replace p:=Hd p;replace q:=Hd q;replace aa:=Hd aa;replace t:=Hd t;replace u:=Hd u;replace hU:=Hd hU;replace hdp' := Hd hdp;replace hP:=Hd hP;replace hM:=Hd hM;replace hlen:=Hd hlen;have hdp9:-1000000<=dp/\dp<=16:=by omega
 clear hD af hg hdp h0 h1
 go_enter Tryz.func240,Tryz.ntmps240
 go_wp2_with fail
 go_loop [3,4] (fun s3 s4=>∃i:Nat,i<=M/\s3=.int .i64 (i:Int)/\s4=.int .u64 (valD (d.L.take i):Int)) (fun s3 _=>M - (intOf s3).toNat)
 case atStart=>exact ⟨0,Nat.zero_le _,rfl,by simp [valD]⟩
 case round=>
  obtain ⟨i,hi,rfl,rfl⟩:=hrel;have s:=hM.out;obtain ⟨v,hv⟩:∃v,v=valD (d.L.take i):=⟨_,rfl⟩;have hv9:v<=10000000000000000:=by rw [hv];exact Nat.le_of_lt (Nat.lt_of_lt_of_le (p.out i hi) (q.out i (by omega)))
  rw [<-hv];by_cases hlt:i<M
  ·have ag:i<d.L.length:=by rw [<-hlen.out];omega
   have hdpi:(i:Int)<dp:=by omega
   have hnii:(i:Int)<(len:Int):=by omega
   obtain ⟨c,hc⟩:∃c,c=d.L[i]:=⟨_,rfl⟩;have al:=n.out i ag;rw [<-hc] at al;have ac:isD c=true:=by rw [hc];exact aa.out _ (List.getElem_mem ag)
   have am:48<=c.toNat/\c.toNat<=57:=by unfold isD at ac;simpa using ac
   have hi8:(i:Int)<800:=by omega
   obtain ⟨dd,hdd⟩:∃dd,dd=dv c:=⟨_,rfl⟩;have hd2:(c.toNat:Int) - 48=(dd:Int):=by rw [hdd];unfold dv;omega
   have hdd9:dd<=9:=by rw [hdd];exact Gd ac
   have ad:((v * 10+dd:Nat):Int)=((valD (d.L.take (i+1)):Nat):Int):=by rw [take_val ag,<-hv,<-hc,<-hdd]
   have aj:(v:Int) * 10+(dd:Int)=((v * 10+dd:Nat):Int):=by omega
   obtain ⟨v', hv'⟩:∃v', v' = v * 10+dd:=⟨_,rfl⟩;rw [<-hv'] at ad aj;replace ad:=Hd ad;replace hv:=Hd hv;replace hv' := Hd hv';replace hc:=Hd hc;replace hdd:=Hd hdd;replace s:=Hd s;replace ab:=Hd ab;clear ac am;go_wp2_with fail
   go_round
   case rel=>exact ⟨i+1,by omega,by go_num,by rw [ad.out]⟩
   case measure=>simp [intOf];omega
  ·have an:i=M:=by omega
   have r:¬((i:Int)<dp/\(i:Int)<(len:Int)):=by omega
   subst an;have hdge:(P:Int)<=16:=by omega
   have o:(dp<0/\P=0/\i=0)\/dp=(P:Int):=by omega
   replace s:=Hd s;replace ab:=Hd ab;replace hP0' := Hd o;have k:∀(j:Nat),i<=j->j<=P->v * 10 ^ (j - i)<=100000000000000000:=fun j h1 h2=>by
    have e1:v * 10 ^ (j - i)<=10 ^ i * 10 ^ (j - i):=Nat.mul_le_mul_right _ (by rw [hv];exact Nat.le_of_lt (p.out i (Nat.le_refl _)));rw [<-Nat.pow_add,show i+(j - i)=j by omega] at e1;have:=q.out j (by omega);omega
   replace k:=Hd k;replace hv:=Hd hv;have key:∀W:World,True:=fun _=>trivial;by_cases hA:(i:Int)<dp
   ·have hB:¬(i:Int)<(len:Int):=by omega
    replace r:=Hd r;replace o:=Hd o;go_wp2_with fail
    go_loop [3,4] (fun s3 s4=>∃j:Nat,i<=j/\j<=P/\s3=.int .i64 (j:Int)/\s4=.int .u64 ((v * 10 ^ (j - i):Nat):Int)) (fun s3 _=>P - (intOf s3).toNat)
    case atStart=>exact ⟨i,Nat.le_refl _,by have:=s.out;omega,rfl,by simp⟩
    case round=>
     obtain ⟨j,ah,ai,rfl,rfl⟩:=hrel;obtain ⟨x,hx⟩:∃x,x=v * 10 ^ (j - i):=⟨_,rfl⟩;have ao:x<=100000000000000000:=by rw [hx];exact k.out j ah ai
     have f:=o.out;rw [<-hx];by_cases hjd:(j:Int)<dp
     ·have ae:((x * 10:Nat):Int)=((v * 10 ^ (j+1 - i):Nat):Int):=by
       rw [hx,show j+1 - i=(j - i)+1 by omega,Nat.pow_succ,Nat.mul_assoc]
      have ak:(x:Int) * 10=((x * 10:Nat):Int):=by omega
      have a:j+1<=P:=by omega
      obtain ⟨y,hy⟩:∃y,y=x * 10:=⟨_,rfl⟩;rw [<-hy] at ae ak;replace ae:=Hd ae;replace hy:=Hd hy;replace hx:=Hd hx;replace f:=Hd f;go_wp2_with fail
      go_round
      case rel=>exact ⟨j+1,by omega,a,by go_num,by rw [ae.out]⟩
      case measure=>simp [intOf];omega
     ·have a:j=P:=by omega
      have m:x=valD (d.L.take i) * 10 ^ (P - i):=by rw [hx,a,hv.out]
      replace hx:=Hd hx;replace m:=Hd m;replace a:=Hd a;replace f:=Hd f;go_wp2_with fail
      refine t.out.mono ?_;rintro e w' ⟨rfl,z⟩;obtain rfl:=z.symm;clear z;cases U
      ·go_wp2
       go_ret;exact ⟨by rw [<-m.out];simp,rfl⟩
      ·go_wp2
       go_ret;exact ⟨by rw [<-m.out];simp,rfl⟩
   ·replace r:=Hd r
    replace o:=Hd o;go_wp2_with fail
    go_loop [3,4] (fun s3 s4=>∃j:Nat,i<=j/\j<=P/\s3=.int .i64 (j:Int)/\s4=.int .u64 ((v * 10 ^ (j - i):Nat):Int)) (fun s3 _=>P - (intOf s3).toNat)
    case atStart=>exact ⟨i,Nat.le_refl _,by have:=s.out;omega,rfl,by simp⟩
    case round=>
     obtain ⟨j,ah,ai,rfl,rfl⟩:=hrel;obtain ⟨x,hx⟩:∃x,x=v * 10 ^ (j - i):=⟨_,rfl⟩;have ao:x<=100000000000000000:=by rw [hx];exact k.out j ah ai
     have f:=o.out;rw [<-hx];by_cases hjd:(j:Int)<dp
     ·exfalso;omega
     ·have a:j=P:=by omega
      have m:x=valD (d.L.take i) * 10 ^ (P - i):=by rw [hx,a,hv.out]
      replace hx:=Hd hx;replace m:=Hd m;replace a:=Hd a;replace f:=Hd f;go_wp2_with fail
      refine t.out.mono ?_;rintro e w' ⟨rfl,z⟩;obtain rfl:=z.symm;clear z;cases U
      ·go_wp2
       go_ret;exact ⟨by rw [<-m.out];simp,rfl⟩
      ·go_wp2
       go_ret;exact ⟨by rw [<-m.out];simp,rfl⟩
