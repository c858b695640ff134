/- internal/strconv.decimal in memory; what its loops keep (no program in sight). -/
import Derived.Test.YtagkgfniihiinaaGreatDoorJ60
import Derived.Test.YtagkgfniihiinaaGreatDoorJ50
import Derived.Test.YtagkgfniihiinaaGreatDoorJ43
import Derived.Test.YtagkgfniihiinaaGreatDoorProg
import Derived.Lib.IndexBytes
import Derived.Deep.DeepCutAuto
import Derived.Deep.LoopGhost
import Derived.Deep.CutBlock
import Derived.WalkMore
import Derived.BigQuiet
import Derived.Test.YtagkgfniihiinaaGreatDoorJ48
set_option linter.all false
namespace Go.Proofs.YtagkgfniihiinaaGreatDoor
open Go.RowKit
def row (f:Nat->UInt8) (n:Nat):List UInt8:=(List.range n).map f
theorem D8 (f:Nat->UInt8) (n:Nat):(row f n).length=n:=by unfold row;simp
theorem row_succ (f:Nat->UInt8) (n:Nat):row f (n+1)=row f n++[f n]:=by unfold row;rw [List.range_succ,List.map_append];rfl
theorem row_get (f:Nat->UInt8) {n i:Nat} (h:i<n):(row f n)[i]'(by rw [D8];exact h)=f i:=by unfold row;simp
theorem row_ext {f:Nat->UInt8} {n:Nat} {L:List UInt8} (hn:L.length=n) (h:∀i (hi:i<L.length),f i=L[i]):row f n=L:=by
 refine List.ext_getElem (by rw [D8,hn]) fun i h1 h2=>?_;rw [D8] at h1;rw [row_get f h1];exact h i h2
theorem row_at {f:Nat->UInt8} {L:List UInt8} (h:row f L.length=L) {i:Nat} (hi:i<L.length):f i=L[i]:=by
 have h1:=row_get f hi;have h2:(row f L.length)[i]'(by rw [D8];exact hi)=L[i]:=by congr 1
 rw [<-h1,h2]
theorem row_congr {f g:Nat->UInt8} {n:Nat} (h:∀i,i<n->f i=g i):row f n=row g n:=by
 unfold row;exact List.map_congr_left fun i hi=>h i (List.mem_range.1 hi)
def stF (f:Nat->UInt8) (i:Nat) (c:UInt8):Nat->UInt8:=fun j=>if j=i then c else f j
theorem stF_eq (f:Nat->UInt8) (i:Nat) (c:UInt8):stF f i c i=c:=if_pos rfl
theorem stF_ne (f:Nat->UInt8) {i j:Nat} (c:UInt8) (h:j≠i):stF f i c j=f j:=if_neg h
theorem row_put (f:Nat->UInt8) (n:Nat) (c:UInt8):row (stF f n c) (n+1)=row f n++[c]:=by
 rw [row_succ,stF_eq,row_congr (g:=f) (fun i hi=>stF_ne f c (by omega))]
theorem strip_row (f:Nat->UInt8) (n:Nat):Bg (row f (n+1))=if f n=48 then Bg (row f n) else row f (n+1):=by
 rw [row_succ];unfold Bg;rw [List.reverse_append,List.reverse_cons,List.reverse_nil,List.nil_append,List.singleton_append,List.dropWhile_cons];by_cases h:f n=48
 · rw [if_pos h,if_pos (by simpa using h)]
 · rw [if_neg h,if_neg (by simpa using h),List.reverse_cons,List.reverse_reverse]
theorem row_strip (f:Nat->UInt8) (n:Nat):row f (Bg (row f n)).length=Bg (row f n):=by
 have h:=stripZ_take (row f n);have hl:=stripZ_len (row f n);rw [D8] at hl;generalize hm:(Bg (row f n)).length=m at *;rw [h];unfold row;rw [<-List.map_take,List.take_range,Nat.min_eq_left hl]
structure DM (w:World) (b:Nat) (f:Nat->UInt8) (n:Nat) (dp:Int) (ng tr:Bool):Prop where
 blk:Blk w b
 dig:∀i,i<800->w.cell? ⟨b,i,none⟩=some (.int .u8 ((f i).toNat:Int))
 nd:w.cell? ⟨b,800,none⟩=some (.int .i64 (n:Int))
 pt:w.cell? ⟨b,801,none⟩=some (.int .i64 dp)
 sg:w.cell? ⟨b,802,none⟩=some (.bool ng)
 cut:w.cell? ⟨b,803,none⟩=some (.bool tr)
theorem DM.put {w:World} {b:Nat} {f:Nat->UInt8} {n:Nat} {dp:Int} {ng tr:Bool} (h:DM w b f n dp ng tr) {i:Nat} (hi:i<800) (c:UInt8):DM (w.setCell ⟨b,i,none⟩ (.int .u8 (c.toNat:Int))) b (stF f i c) n dp ng tr:=by
 refine ⟨h.blk.setCell _ _,fun j hj=>?_,?_,?_,?_,?_⟩
 · by_cases e:j=i
   · subst e;rw [stF_eq];exact Am (h.dig j hj)
   · rw [stF_ne f c e,Ad (fun q=>e (by cases q;rfl))];exact h.dig j hj
 · rw [Ad (fun q=>by cases q;omega)];exact h.nd
 · rw [Ad (fun q=>by cases q;omega)];exact h.pt
 · rw [Ad (fun q=>by cases q;omega)];exact h.sg
 · rw [Ad (fun q=>by cases q;omega)];exact h.cut
theorem DM.setN {w:World} {b:Nat} {f:Nat->UInt8} {n:Nat} {dp:Int} {ng tr:Bool} (h:DM w b f n dp ng tr) (m:Nat):DM (w.setCell ⟨b,800,none⟩ (.int .i64 (m:Int))) b f m dp ng tr:=by
 refine ⟨h.blk.setCell _ _,fun j hj=>?_,Am h.nd,?_,?_,?_⟩
 · rw [Ad (fun q=>by cases q;omega)];exact h.dig j hj
 · rw [Ad (fun q=>by cases q)];exact h.pt
 · rw [Ad (fun q=>by cases q)];exact h.sg
 · rw [Ad (fun q=>by cases q)];exact h.cut
theorem DM.setP {w:World} {b:Nat} {f:Nat->UInt8} {n:Nat} {dp:Int} {ng tr:Bool} (h:DM w b f n dp ng tr) (q:Int):DM (w.setCell ⟨b,801,none⟩ (.int .i64 q)) b f n q ng tr:=by
 refine ⟨h.blk.setCell _ _,fun j hj=>?_,?_,Am h.pt,?_,?_⟩
 · rw [Ad (fun q=>by cases q;omega)];exact h.dig j hj
 · rw [Ad (fun q=>by cases q)];exact h.nd
 · rw [Ad (fun q=>by cases q)];exact h.sg
 · rw [Ad (fun q=>by cases q)];exact h.cut
theorem DM.setS {w:World} {b:Nat} {f:Nat->UInt8} {n:Nat} {dp:Int} {ng tr:Bool} (h:DM w b f n dp ng tr) (q:Bool):DM (w.setCell ⟨b,802,none⟩ (.bool q)) b f n dp q tr:=by
 refine ⟨h.blk.setCell _ _,fun j hj=>?_,?_,?_,Am h.sg,?_⟩
 · rw [Ad (fun q=>by cases q;omega)];exact h.dig j hj
 · rw [Ad (fun q=>by cases q)];exact h.nd
 · rw [Ad (fun q=>by cases q)];exact h.pt
 · rw [Ad (fun q=>by cases q)];exact h.cut
theorem DM.setT {w:World} {b:Nat} {f:Nat->UInt8} {n:Nat} {dp:Int} {ng tr:Bool} (h:DM w b f n dp ng tr) (q:Bool):DM (w.setCell ⟨b,803,none⟩ (.bool q)) b f n dp ng q:=by
 refine ⟨h.blk.setCell _ _,fun j hj=>?_,?_,?_,?_,Am h.cut⟩
 · rw [Ad (fun q=>by cases q;omega)];exact h.dig j hj
 · rw [Ad (fun q=>by cases q)];exact h.nd
 · rw [Ad (fun q=>by cases q)];exact h.pt
 · rw [Ad (fun q=>by cases q)];exact h.sg
theorem DM.drewN {w:World} {b:Nat} {f:Nat->UInt8} {n:Nat} {dp:Int} {ng tr:Bool} (h:DM w b f n dp ng tr) (k:Nat):DM (w.drewN k) b f n dp ng tr:=by
 have hc:∀a,(w.drewN k).cell? a=w.cell? a:=fun a=>World.cell?_drewN ..;refine ⟨?_,fun i hi=>by rw [hc];exact h.dig i hi,by rw [hc];exact h.nd,by rw [hc];exact h.pt,by rw [hc];exact h.sg,by rw [hc];exact h.cut⟩;induction k with
 | zero=>exact h.blk
 | succ k ih=>exact Blk.drew (ih fun a=>World.cell?_drewN ..)
theorem Fr.drewN {S:Nat->Prop} {a w:World} (h:Fr S a w) (k:Nat):Fr S a (w.drewN k):=by
 induction k with
 | zero=>exact h
 | succ k ih=>exact ih.drew
def Dm (w:World) (b:Nat) (d:Dec) (ng:Bool):Prop:=∃f,DM w b f d.L.length d.dp ng d.tr/\row f d.L.length=d.L
theorem Dm.of_trim {w:World} {b:Nat} {f:Nat->UInt8} {n:Nat} {dp:Int} {ng tr:Bool} (h:DM w b f (Bg (row f n)).length (if Bg (row f n)=[] then 0 else dp) ng tr):Dm w b (Ev (row f n) dp tr) ng:=⟨f,h,row_strip f n⟩
theorem val_at:∀(j:Nat) (L:List UInt8),(∀c∈L,isD c=true)->(h:j<L.length)->dv (L[L.length - 1 - j]'(by omega))=valD L / 10 ^ j % 10
 | j,L,hd,h=>by
   obtain ⟨m,hm⟩:∃m,L.length - 1 - j=m:=⟨_,rfl⟩;have hml:m<L.length:=by omega
   have e:L=L.take m++(L[m] :: L.drop (m+1)):=by rw [<-List.drop_eq_getElem_cons hml,List.take_append_drop]
   have hlen:(L.drop (m+1)).length=j:=by rw [List.length_drop];omega
   have hlt:=C7 (l:=L.drop (m+1)) (fun c hc=>hd c (List.mem_of_mem_drop hc));have hc:=Ew (hd L[m] (List.getElem_mem hml));have hv:valD L=(valD (L.take m) * 10+dv L[m]) * 10 ^ j+valD (L.drop (m+1)):=by
     conv=>lhs;rw [e]
     rw [D4,C8,List.length_cons,hlen,Nat.pow_succ,Nat.add_mul];have:valD (L.take m) * (10 ^ j * 10)=valD (L.take m) * 10 * 10 ^ j:=by simp only [Nat.mul_assoc,Nat.mul_left_comm,Nat.mul_comm]
     omega
   rw [hlen] at hlt;have h1:valD L / 10 ^ j=valD (L.take m) * 10+dv L[m]:=by
     rw [hv,Nat.mul_comm,Nat.mul_add_div (Nat.pow_pos (by decide)),Nat.div_eq_of_lt hlt,Nat.add_zero]
   rw [h1];simp only [hm];omega
theorem isD_of_dv {c:UInt8} {n:Nat} (hc:isD c=true) (h:dv c=n):c=dg8 n/\c.toNat=48+n:=by
 have h9:=Ew hc;unfold isD at hc;simp only [Bool.and_eq_true,decide_eq_true_eq] at hc;unfold dv at h;have h2:c.toNat=48+n:=by omega
 refine ⟨UInt8.toNat_inj.1 ?_,h2⟩;rw [h2];unfold dg8;rw [Cl (by omega)]
theorem ls_at (k:Nat) (d:Dec) {j:Nat} (h:j<(lsO k d).length):∃r,(lsO k d)[(lsO k d).length - 1 - j]'(by omega)=dg8 r/\r=valD d.L * 2 ^ k / 10 ^ j % 10/\r<10:=by
 have h1:=val_at j (lsO k d) (dec_isD _) h;have h2:valD (lsO k d)=valD d.L * 2 ^ k:=dec_val _;rw [h2] at h1;exact ⟨_,(isD_of_dv (dec_isD _ _ (List.getElem_mem _)) h1).1,rfl,Nat.mod_lt _ (by decide)⟩
theorem ls_step {L:List UInt8} {j k:Nat} (hd:∀c∈L,isD c=true) (h:j<L.length) :
   valD (L.drop (L.length - j)) * 2 ^ k / 10 ^ j+dv (L[L.length - 1 - j]'(by omega)) * 2 ^ k=valD (L.drop (L.length - (j+1))) * 2 ^ k / 10 ^ j /\
   valD (L.drop (L.length - (j+1))) * 2 ^ k / 10 ^ j / 10=valD (L.drop (L.length - (j+1))) * 2 ^ k / 10 ^ (j+1) /\
   valD (L.drop (L.length - (j+1))) * 2 ^ k / 10 ^ j % 10=valD L * 2 ^ k / 10 ^ j % 10 /\
   valD (L.drop (L.length - j)) * 2 ^ k / 10 ^ j<=2 ^ k:=by
 obtain ⟨m,hm⟩:∃m,L.length - (j+1)=m:=⟨_,rfl⟩
 have hml:m<L.length:=by omega
 have e1:L.length - j=m+1:=by omega
 have e2:L.length - 1 - j=m:=by omega
 rw [hm,e1]
 simp only [e2]
 have hlen:(L.drop (m+1)).length=j:=by rw [List.length_drop];omega
 have hlt:=C7 (l:=L.drop (m+1)) (fun c hc=>hd c (List.mem_of_mem_drop hc))
 rw [hlen] at hlt
 have hp:0<10 ^ j:=Nat.pow_pos (by decide)
 have hv:valD (L.drop m)=dv L[m] * 10 ^ j+valD (L.drop (m+1)):=by rw [List.drop_eq_getElem_cons hml,C8,hlen]
 have hT:valD L=valD (L.take m) * 10 ^ (j+1)+valD (L.drop m):=by
   conv=>lhs;rw [<-List.take_append_drop m L]
   rw [D4,List.length_drop,show L.length - m=j+1 by omega]
 refine ⟨?_,?_,?_,?_⟩
 · rw [hv,Nat.add_mul,Nat.mul_right_comm,Nat.mul_comm (dv L[m] * 2 ^ k),Nat.mul_add_div hp,Nat.add_comm]
 · rw [Nat.div_div_eq_div_mul,<-Nat.pow_succ]
 · rw [hT,Nat.add_mul]
   have:valD (L.take m) * 10 ^ (j+1) * 2 ^ k=10 ^ j * (valD (L.take m) * 2 ^ k * 10):=by rw [Nat.pow_succ];simp only [Nat.mul_assoc,Nat.mul_left_comm,Nat.mul_comm]
   rw [this,Nat.mul_add_div hp];omega
 · refine Nat.le_trans (Nat.div_le_div_right (c:=10 ^ j) (Nat.mul_le_mul_right (2 ^ k) (Nat.le_of_lt hlt))) ?_
   rw [Nat.mul_comm,Nat.mul_div_cancel _ hp];exact Nat.le_refl _
theorem ls_more {T j:Nat} (h:0<T / 10 ^ j):j<Lib.nDigits T:=by
 have hp:0<10 ^ j:=Nat.pow_pos (by decide);have h1:10 ^ j<=T:=by
   rcases Nat.lt_or_ge T (10 ^ j) with h9 | h9
   · rw [Nat.div_eq_of_lt h9] at h;omega
   · exact h9
 exact Ep (by omega) h1
theorem ls_done {T j:Nat} (h0:0<T) (h:T / 10 ^ j=0):Lib.nDigits T<=j:=by
 have hp:0<10 ^ j:=Nat.pow_pos (by decide);refine Cx h0 ?_;rcases Nat.lt_or_ge T (10 ^ j) with h9 | h9
 · exact h9
 · have:=Nat.div_pos h9 hp;omega
theorem ls_div {T j:Nat}:T / 10 ^ j / 10=T / 10 ^ (j+1):=by rw [Nat.div_div_eq_div_mul,<-Nat.pow_succ]
structure Behind (O:List UInt8) (f g:Nat->UInt8) (t0 t:Bool) (p:Nat):Prop where
 done:∀i (h:i<O.length),p<=i->i<800->g i=O[i]
 rest:∀i,i<p->g i=f i
 cut:t=(t0 || (O.drop (max p 800)).any (· != 48))
theorem Behind.start {O:List UInt8} {f:Nat->UInt8} {t0:Bool}:Behind O f f t0 t0 O.length:=
 ⟨fun i h h1=>by omega,fun _ _=>rfl,by rw [List.drop_eq_nil_of_le (by omega)];simp⟩
theorem Behind.put {O:List UInt8} {f g:Nat->UInt8} {t0 t:Bool} {p:Nat} (h:Behind O f g t0 t (p+1)) (hp:p<O.length) (h8:p<800):Behind O f (stF g p O[p]) t0 t p:=by
 refine ⟨fun i hi h1 h2=>?_,fun i hi=>?_,?_⟩
 · by_cases e:i=p
   · subst e;rw [stF_eq]
   · rw [stF_ne g _ e];exact h.done i hi (by omega) h2
 · rw [stF_ne g _ (by omega)];exact h.rest i (by omega)
 · rw [h.cut,show max (p+1) 800=800 by omega,show max p 800=800 by omega]
theorem Behind.skip {O:List UInt8} {f g:Nat->UInt8} {t0 t:Bool} {p:Nat} (h:Behind O f g t0 t (p+1)) (hp:p<O.length) (h8:800<=p):Behind O f g t0 (t || (O[p] != 48)) p:=by
 refine ⟨fun i hi h1 h2=>by omega,fun i hi=>h.rest i (by omega),?_⟩;rw [h.cut,show max (p+1) 800=p+1 by omega,show max p 800=p by omega,List.drop_eq_getElem_cons hp,List.any_cons];cases t0<;>cases (O[p] != 48)<;>cases (List.drop (p+1) O).any (· != 48)<;>rfl
theorem Behind.whole {O:List UInt8} {f g:Nat->UInt8} {t0 t:Bool} (h:Behind O f g t0 t 0):row g (min 800 O.length)=O.take 800/\t=(t0 || (O.drop 800).any (· != 48)):=by
 refine ⟨row_ext (by rw [List.length_take]) fun i hi=>?_,h.cut⟩;rw [List.length_take] at hi;rw [List.getElem_take];exact h.done i (by omega) (by omega) (by omega)
theorem pick_more {k n:Nat} {c:UInt8} {l:List UInt8} (h:n / 2 ^ k=0):A6 k n (c :: l)=((A6 k (n * 10+dv c) l).1,(A6 k (n * 10+dv c) l).2.1+1,(A6 k (n * 10+dv c) l).2.2):=by
 rw [A6,if_pos h]
theorem pick_stop {k n:Nat} {l:List UInt8} (h:n / 2 ^ k≠0):A6 k n l=(n,0,l):=by
 cases l with
 | nil=>rfl
 | cons c l=>rw [A6,if_neg h]
theorem fill_more {k n f:Nat} (h:n / 2 ^ k=0):Ca k (f+1) n=((Ca k f (n * 10)).1,(Ca k f (n * 10)).2+1):=by rw [Ca,if_pos h]
theorem fill_stop {k n f:Nat} (h:n / 2 ^ k≠0):Ca k f n=(n,0):=by
 cases f with
 | zero=>rfl
 | succ f=>rw [Ca,if_neg h]
theorem Fu {k n f:Nat} (h:n≠0):Cb k (f+1) n=dg8 (n / 2 ^ k) :: Cb k f (n % 2 ^ k * 10):=by rw [Cb,if_neg h]
theorem Eg {k f:Nat}:Cb k f 0=[]:=by
 cases f with
 | zero=>rfl
 | succ f=>rw [Cb,if_pos rfl]
structure TailI (k g n:Nat):Prop where
 lt:n<10 * 2 ^ k
 dvd:2 ^ (k+1 - g) ∣ n
 le:g<=k+2
 zero:g=0->n=0
theorem TailI.start {k n:Nat} (h:n<10 * 2 ^ k):TailI k (k+2) n:=⟨h,by rw [show k+1 - (k+2)=0 by omega];exact Nat.one_dvd _,Nat.le_refl _,fun h=>by omega⟩
theorem TailI.next {k g n:Nat} (h:TailI k (g+1) n):TailI k g (n % 2 ^ k * 10):=by
 have h2:=Nat.two_pow_pos k;have hm:=Nat.mod_lt n h2;have hle:=h.le;refine ⟨by omega,?_,by omega,fun hg=>?_⟩
 · by_cases hk:g<=k
   · have h1:=h.dvd
     rw [show k+1 - (g+1)=k - g by omega] at h1;have h3:2 ^ (k - g) ∣ 2 ^ k:=Nat.pow_dvd_pow 2 (by omega);have h4:2 ^ (k - g) ∣ n % 2 ^ k:=(Nat.dvd_mod_iff h3).2 h1;rw [show k+1 - g=(k - g)+1 by omega,Nat.pow_succ];exact Nat.mul_dvd_mul h4 ⟨5,rfl⟩
   · rw [show k+1 - g=0 by omega];exact Nat.one_dvd _
 · subst hg
   have h1:=h.dvd;rw [show k+1 - (0+1)=k by omega] at h1;rw [Nat.mod_eq_zero_of_dvd h1]
structure Front (P:List UInt8) (g:Nat->UInt8) (t0 t:Bool) (p:Nat):Prop where
 len:p=min 800 P.length
 row:row g p=P.take 800
 cut:t=(t0 || (P.drop 800).any (· != 48))
theorem Front.put {P:List UInt8} {g:Nat->UInt8} {t0 t:Bool} {p:Nat} (h:Front P g t0 t p) (h8:p<800) (c:UInt8):Front (P++[c]) (stF g p c) t0 t (p+1):=by
 have hl:=h.len;have hpl:P.length=p:=by omega
 refine ⟨by rw [List.length_append,List.length_singleton];omega,?_,?_⟩
 · have h1:=h.row
   rw [row_put,h1,List.take_of_length_le (by omega),List.take_of_length_le (by rw [List.length_append,List.length_singleton];omega)]
 · rw [h.cut,List.drop_eq_nil_of_le (by omega),List.drop_eq_nil_of_le (by rw [List.length_append,List.length_singleton];omega)]
theorem Front.skip {P:List UInt8} {g:Nat->UInt8} {t0 t:Bool} {p:Nat} (h:Front P g t0 t p) (h8:800<=p) (c:UInt8):Front (P++[c]) g t0 (t || (c != 48)) p:=by
 have hl:=h.len;refine ⟨by rw [List.length_append];omega,?_,?_⟩
 · rw [h.row,List.take_append_of_le_length (by omega)]
 · rw [h.cut,List.drop_append_of_le_length (by omega),List.any_append,List.any_cons,List.any_nil,Bool.or_false,Bool.or_assoc]
theorem dg8_ne {n:Nat} (h:n<10):(dg8 n != 48)=decide (0<n):=by
 have h1:=dg8_dv h;rcases Nat.eq_zero_or_pos n with h0 | h0
 · subst h0;rfl
 · rw [decide_eq_true h0,bne_iff_ne]
   intro e;rw [e] at h1;have:dv 48=0:=rfl;omega
theorem take_val {L:List UInt8} {i:Nat} (h:i<L.length):valD (L.take (i+1))=valD (L.take i) * 10+dv L[i]:=by rw [List.take_succ_eq_append_getElem h,valD_snoc]
theorem getD_at {L:List UInt8} {i:Nat} (h:i<L.length):L.getD i 0=L[i]:=by rw [List.getD_eq_getElem?_getD,List.getElem?_eq_getElem h];rfl
theorem cast48 {c:UInt8}:((c.toNat:Int) == 48)=decide (c=48):=by
 by_cases h:c=48
 · rw [h];rfl
 · have h2:¬c.toNat=48:=fun e=>h (UInt8.toNat_inj.1 e)
   rw [decide_eq_false h];exact beq_eq_false_iff_ne.2 (fun e=>h2 (by omega))
set_option maxRecDepth 100000 in
set_option maxHeartbeats 3200000 in
theorem dtrim_any {w:World} {b n:Nat} {f:Nat->UInt8} {dp:Int} {ng tr:Bool} (h:DM w b f n dp ng tr) (hn:n<=800) :
   Calls Tryz.prog 181 #[.pointer (some ⟨b,0,none⟩)] w fun e w' => e=.returned (.tuple #[])/\Dm w' b (Ev (row f n) dp tr) ng/\Fr (fun k=>k=b) w w' := by
 obtain ⟨L,hL⟩:∃L,L=Bg (row f n):=⟨_,rfl⟩
 have hgoal:∀w', DM w' b f L.length (if L=[] then 0 else dp) ng tr->Dm w' b (Ev (row f n) dp tr) ng:=fun w' hw=>by
   rw [hL] at hw;exact Dm.of_trim hw
 replace hgoal:=Hd hgoal
 have h0:=Hd h
 clear h
 go_enter Tryz.func181,Tryz.ntmps181
 go_wp2_with fail
 go_loopw [19] (fun _ wr=>∃m:Nat,m<=n/\Bg (row f m)=L/\DM wr b f m dp ng tr/\Fr (fun k=>k=b) w wr) (fun _ wr=>match wr.cell? ⟨b,800,none⟩ with | some (.int _ v)=>v.toNat | _=>0)
 case atStart=>exact ⟨n,Nat.le_refl _,hL.symm,h0.out,Fr.refl _ _⟩
 case round=>
   obtain ⟨m,hm,hs,hD,hF⟩:=hrel;have c0:=hD.nd;have hdig:=hD.dig;have hstep:∀nq,∃W,W=wr.drewN nq/\DM W b f m dp ng tr/\Fr (fun k=>k=b) w W:=fun nq=>⟨_,rfl,hD.drewN nq,hF.drewN nq⟩;replace hdig:=Hd hdig;replace hstep:=Hd hstep;replace hL:=Hd hL;clear h0 hD hF;rcases m with _ | i
   · have hnil:L=[]:=by rw [<-hs];rfl
     replace hs:=Hd hs;replace hnil:=Hd hnil;go_upto_region 0 with fail
     go_quiet (fail)
     obtain ⟨W,hW,hD,hF⟩:=hstep.out nq;rw [<-hW];have c0:=hD.nd;have c1:=hD.pt;have z1:=hD.blk.frz 801 none;have hDp:=hD.setP 0;replace hW:=Hd hW;replace hDp:=Hd hDp;replace hF:=Hd hF;clear hD;go_wp2
     go_end0
     refine ⟨rfl,hgoal.out _ ?_,hF.out.setCell (fun _=>rfl) _⟩;rw [hnil.out];exact hDp.out
   · have hd:=hdig.out i (by omega)
     have hi8:(i:Int)<800:=by omega
     have hst:=strip_row f i;have hc48:(((f i).toNat:Int) == 48)=decide (f i=48):=cast48;by_cases h48:f i=48
     · rw [if_pos h48] at hst
       have hs2:=hst.symm.trans hs;have hv:((f i).toNat:Int)=48:=by rw [h48];rfl
       replace hs:=Hd hs;replace hs2:=Hd hs2;replace hst:=Hd hst;replace hv:=Hd hv;rw [decide_eq_true h48] at hc48;clear h48;go_upto_region 0 with fail
       go_quiet (fail)
       obtain ⟨W,hW,hD,hF⟩:=hstep.out nq;rw [<-hW];have c0' := hD.nd;have z0:=hD.blk.frz 800 none;have hDn:=hD.setN i;replace hW:=Hd hW;replace hDn:=Hd hDn;replace hF:=Hd hF;clear hD;go_wp2_with fail
       go_round
       case rel=>exact ⟨i,by omega,hs2.out,hDn.out,hF.out.setCell (fun _=>rfl) _⟩
       case measure=>rw [hDn.out.nd,c0];simp
     · rw [if_neg h48] at hst
       have hs2:L=row f (i+1):=(hst.symm.trans hs).symm;have hne:¬L=[]:=by rw [hs2,row_succ];simp
       have hlen:L.length=i+1:=by rw [hs2,D8]
       have hv:¬((f i).toNat:Int)=48:=fun e=>h48 (UInt8.toNat_inj.1 (show (f i).toNat=48 by omega));replace hs:=Hd hs;replace hs2:=Hd hs2;replace hst:=Hd hst;replace hne:=Hd hne;replace hlen:=Hd hlen;rw [decide_eq_false h48] at hc48;clear h48;go_upto_region 0 with fail
       go_quiet (fail)
       obtain ⟨W,hW,hD,hF⟩:=hstep.out nq;rw [<-hW];have c0' := hD.nd;replace hW:=Hd hW;replace hD:=Hd hD;replace hF:=Hd hF;go_wp2
       go_end0
       refine ⟨rfl,hgoal.out _ ?_,hF.out⟩;rw [if_neg hne.out,hlen.out];exact hD.out
theorem lex_nil {l:List UInt8}:Az l []=false:=by unfold Az;cases l<;>rfl
theorem lex_end {c:UInt8} {m:List UInt8}:Az [] (c :: m)=true:=by unfold Az;rfl
theorem lex_eq {c:UInt8} {l m:List UInt8}:Az (c :: l) (c :: m)=Az l m:=by rw [Az,if_pos rfl]
theorem lex_ne {a c:UInt8} {l m:List UInt8} (h:a≠c):Az (a :: l) (c :: m)=decide (a.toNat<c.toNat):=by rw [Az,if_neg h]
theorem row_drop {f:Nat->UInt8} {n i:Nat} (h:i<n):(row f n).drop i=f i :: (row f n).drop (i+1):=by
 rw [List.drop_eq_getElem_cons (by rw [D8];exact h),row_get f h]
set_option maxRecDepth 100000 in
set_option maxHeartbeats 3200000 in
theorem prefix_any {w:World} {b n:Nat} {f:Nat->UInt8} {dp:Int} {ng tr:Bool} (h:DM w b f n dp ng tr) (hn:n<=800) (C:ByteArray) (hC:C.size<=100) :
   Calls Tryz.prog 227 #[.slice (some ⟨b,0,none⟩) n 800,.string C] w fun e w' => e=.returned (.bool (Az (row f n) C.data.toList))/\∃k,w' = w.drewN k:=by
 obtain ⟨R,hR⟩:∃R,R=Az (row f n) C.data.toList:=⟨_,rfl⟩
 have hdig:=h.dig
 rw [<-hR]
 replace hR:=Hd hR
 replace hdig:=Hd hdig
 have hn8:(n:Int)<=800:=by omega
 have hC8:(C.size:Int)<=100:=by omega
 clear h
 go_enter Tryz.func227,Tryz.ntmps227
 go_wp2_with fail
 go_loopw [5] (fun i wr=>∃j k:Nat,j<=C.size/\i=.int .i64 j/\Az ((row f n).drop j) (C.data.toList.drop j)=R/\wr=w.drewN k) (fun i _=>C.size - (intOf i).toNat)
 case atStart=>exact ⟨0,0,Nat.zero_le _,rfl,hR.out.symm,rfl⟩
 case round=>
   obtain ⟨j,k,hj,rfl,hl,rfl⟩:=hrel;by_cases hjC:j<C.size
   · have hjCi:(j:Int)<(C.size:Int):=by omega
     obtain ⟨c,hc⟩:∃c,C[j]'hjC=c:=⟨_,rfl⟩;have hcl:C.data.toList.drop j=c :: C.data.toList.drop (j+1):=by
       have hlt:j<C.data.toList.length:=by rw [Array.length_toList];exact hjC
       have h1:=Lib.data_getElem? C j hjC;rw [List.getElem?_eq_getElem hlt,hc] at h1;rw [List.drop_eq_getElem_cons hlt,Option.some.inj h1]
     rw [hcl] at hl;replace hcl:=Hd hcl;by_cases hjn:j<n
     · have hjni:(j:Int)<(n:Int):=by omega
       rw [row_drop hjn] at hl;have hd:=hdig.out j (by omega);by_cases he:f j=c
       · have hv:((f j).toNat:Int)=(c.toNat:Int):=by rw [he]
         rw [he,lex_eq] at hl;rw [hv] at hd;replace hl:=Hd hl;clear he hv;go_upto_region 6 with fail
         go_quiet (fail)
         go_wp2_with fail
         go_round
         case rel=>exact ⟨j+1,k+nq,by omega,by go_num,hl.out,rfl⟩
         case measure=>simp [intOf];omega
       · have hv:((((f j).toNat:Int) != (c.toNat:Int)))=true:=by
           rw [bne_iff_ne];intro e;exact he (UInt8.toNat_inj.1 (by omega))
         rw [lex_ne he] at hl;have hR2:decide (((f j).toNat:Int)<(c.toNat:Int))=R:=by
           rw [<-hl];simp
         replace hl:=Hd hl;replace hR2:=Hd hR2;clear he;go_upto_region 6 with fail
         go_quiet (fail)
         go_upto_region 7 with fail
         go_quiet (fail)
         go_wp2;go_ret;refine ⟨by rw [<-hl.out];rfl,?_⟩;simp only [World.drewN_drewN];exact ⟨_,rfl⟩
     · have hjni:¬(j:Int)<(n:Int):=by omega
       have hge:(n:Int)<=(j:Int):=by omega
       rw [List.drop_eq_nil_of_le (by rw [D8];omega),lex_end] at hl;replace hl:=Hd hl;go_wp2;go_ret;exact ⟨by rw [<-hl.out];rfl,_,rfl⟩
   · have hjCi:¬(j:Int)<(C.size:Int):=by omega
     have hcl:C.data.toList.drop j=[]:=List.drop_eq_nil_of_le (by rw [Array.length_toList];show C.size<=j;omega);rw [hcl,lex_nil] at hl;replace hcl:=Hd hcl;replace hl:=Hd hl;go_wp2;go_ret;exact ⟨by rw [<-hl.out];rfl,_,rfl⟩
def cutS (k:Nat):ByteArray:=⟨(Lib.decDigits (5 ^ k)).toArray⟩
structure Slow (w:World):Prop where
 cheats:∃(b:Addr) (c:Nat),w.cell? ⟨9,0,none⟩=some (.slice (some b) 61 c)/\∀k,1<=k->k<=60->w.cell? (b.add (k * 2))=some (.int .i64 (Cv k:Int))/\w.cell? ⟨(b.add (k * 2)).block,(b.add (k * 2)).off+1,none⟩=some (.string (cutS k))
 pts:∃(b:Addr) (c:Nat),w.cell? ⟨13,0,none⟩=some (.slice (some b) 9 c)/\∀i,i<9->w.cell? (b.add i)=some (.int .i64 (pt i:Int))
 i0:w.cell? ⟨7,0,none⟩=some (.int .u64 52)
 i1:w.cell? ⟨7,1,none⟩=some (.int .u64 11)
 i2:w.cell? ⟨7,2,none⟩=some (.int .i64 (-1023))
theorem Slow.below {w w' : World} (h:Slow w) (hb:Below w.heap.size w w'):Slow w' := by
 obtain ⟨⟨b,c,h1,h2⟩,⟨b', c', h3,h4⟩,h5,h6,h7⟩:=h;have key:∀a v,w.cell? a=some v->w'.cell? a=some v:=fun a v hv=>(hb.cell (World.block_lt_of_cell? _ _ hv)).trans hv;exact ⟨⟨b,c,key _ _ h1,fun k k1 k2=>⟨key _ _ (h2 k k1 k2).1,key _ _ (h2 k k1 k2).2⟩⟩,⟨b', c', key _ _ h3,fun i hi=>key _ _ (h4 i hi)⟩,key _ _ h5,key _ _ h6,key _ _ h7⟩
structure Dn (w0 w:World) (b:Nat):Prop where
 slow:Slow w0
 below:Below w0.heap.size w0 w
 new:w0.heap.size<=b
theorem Dn.fr {w0 w w' : World} {b:Nat} (h:Dn w0 w b) (hf:Fr (fun k=>k=b) w w'):Dn w0 w' b:=
 ⟨h.slow,h.below.trans (hf.below h.below.size (fun i hi e=>by have:=h.new;omega)),h.new⟩
theorem Dn.at {w0 w:World} {b:Nat} (h:Dn w0 w b):Slow w:=h.slow.below h.below
theorem cut_size {k:Nat} (h:k<=60):(cutS k).size<=100:=by
 unfold cutS;show (Lib.decDigits (5 ^ k)).toArray.size<=100;rw [List.size_toArray,Lib.decDigits_length];have:=five_len k;omega
theorem ls_stepN {L:List UInt8} {j k nd i:Nat} {c:UInt8} (hn:nd=L.length) (hd:∀c∈L,isD c=true) (h:j<nd) (hi:i=nd - 1 - j) (hc:L[i]?=some c) :
   valD (L.drop (nd - j)) * 2 ^ k / 10 ^ j+dv c * 2 ^ k=valD (L.drop (nd - (j+1))) * 2 ^ k / 10 ^ j /\
   valD (L.drop (nd - (j+1))) * 2 ^ k / 10 ^ j / 10=valD (L.drop (nd - (j+1))) * 2 ^ k / 10 ^ (j+1) /\
   valD (L.drop (nd - (j+1))) * 2 ^ k / 10 ^ j % 10=valD L * 2 ^ k / 10 ^ j % 10 /\
   valD (L.drop (nd - j)) * 2 ^ k / 10 ^ j<=2 ^ k:=by
 subst hn
 subst hi
 have h1:=ls_step (k:=k) hd h
 rw [List.getElem?_eq_getElem (by omega)] at hc
 rw [Option.some.inj hc] at h1
 exact h1
set_option maxRecDepth 100000 in
set_option maxHeartbeats 6400000 in
theorem dleft_any {w0 w:World} {b k:Nat} {d:Dec} {ng:Bool} (hw:Dn w0 w b) (h:Dm w b d ng) (hg:d.Good) (hk1:1<=k) (hk:k<=60) (hp0:-1000000<=d.dp) (hp1:d.dp<=1000000) :
   Calls Tryz.prog 182 #[.pointer (some ⟨b,0,none⟩),.int .u64 (k:Int)] w fun e w' => e=.returned (.tuple #[])/\Dm w' b (lsD k d) ng/\Fr (fun k=>k=b) w w' := by
 obtain ⟨f,hD,hrow⟩:=h
 have hlen:=ls_len hg k
 obtain ⟨_,hdp,hle,_⟩:=ls_good hg k
 obtain ⟨⟨cb,cc,q1,q2⟩,_⟩:=hw.at
 obtain ⟨q3,q4⟩:=q2 k hk1 hk
 have hn8:=hg.len
 have hv:=hg.val
 have hpre:∀q,Calls Tryz.prog 227 #[.slice (some ⟨b,0,none⟩) (d.L.length) 800,.string (cutS k)] (w.drewN q) fun e w' => e=.returned (.bool (Az d.L (cutS k).data.toList))/\∃m,w' = w.drewN m:=fun q=>by
   have h1:=prefix_any (hD.drewN q) hn8 (cutS k) (cut_size hk);rw [hrow] at h1;exact h1.mono fun e w' ⟨he,m,hm⟩=>⟨he,q+m,by rw [hm,World.drewN_drewN]⟩
 obtain ⟨lx,hlx⟩:∃lx,lx=Az d.L (cutS k).data.toList:=⟨_,rfl⟩
 have hlx2:Az d.L (Lib.decDigits (5 ^ k))=lx:=hlx.symm
 rw [<-hlx] at hpre
 rw [hlx2] at hlen
 have c0:=hD.nd
 have cp:=hD.pt
 have hki:(k:Int)<=60:=by omega
 have hk0:(0:Int)<=(k:Int):=by omega
 obtain ⟨len,hln⟩:∃len,len=(lsO k d).length:=⟨_,rfl⟩
 obtain ⟨nd,hnd⟩:∃nd,nd=d.L.length:=⟨_,rfl⟩
 rw [<-hln,<-hnd] at hlen
 rw [<-hnd] at hD c0 hpre hrow hn8
 obtain ⟨ch,hch⟩:∃ch,ch=Cv k:=⟨_,rfl⟩
 rw [<-hch] at hlen q3
 have hd1:(ch:Int) - (if lx then 1 else 0)=(len:Int) - (nd:Int):=by cases lx<;>simp at hlen ⊢<;>omega
 replace hpre:=Hd hpre
 replace hlx:=Hd hlx
 replace hlx2:=Hd hlx2
 replace hD:=Hd hD
 replace hrow:=Hd hrow
 replace hg:=Hd hg
 replace hln:=Hd hln
 replace hnd:=Hd hnd
 replace hch:=Hd hch
 replace hv:=Hd hv
 replace hw:=Hd hw
 replace hdp:=Hd hdp
 replace hle:=Hd hle
 replace hlen:=Hd hlen
 have hn8i:(nd:Int)<=800:=by omega
 have hk61:(k:Int)<61:=by omega
 have hch9:ch<=61:=by rw [hch.out];unfold Cv;omega
 have hln9:len<=861:=by have:=hlen.out;split at this<;>omega
 have hndl:nd<=len:=by rw [hnd.out,hln.out];exact hle.out
 clear q2
 go_enter Tryz.func182,Tryz.ntmps182
 go_upto_region 1 with fail
 go_quiet ((go_at_call 227;exact hpre.out _))
 go_upto_if 30 with fail
 go_cut [4] from 30 to 32 (fun s4 wx=>s4=.int .i64 ((len:Int) - (nd:Int))/\∃q,wx=w.drewN q)
 case first=>
   cases lx
   · have hd2:(ch:Int)=(len:Int) - (nd:Int):=by simpa using hd1
     replace hd2:=Hd hd2;clear hd1;go_wp2_with fail
     go_meet
     exact ⟨by rw [hd2.out],_,rfl⟩
   · have hd2:(ch:Int) - 1=(len:Int) - (nd:Int):=by simpa using hd1
     replace hd2:=Hd hd2;clear hd1;go_wp2_with fail
     go_meet
     exact ⟨by rw [hd2.out],_,rfl⟩
 case rest=>
   obtain ⟨rfl,q,hww⟩:=hcut;obtain rfl:=hww;clear hpre hlx hlx2 hlen hd1 q1 q3 q4;obtain ⟨dl,hdl⟩:∃dl:Nat,dl=len - nd:=⟨_,rfl⟩;have hdli:(len:Int) - (nd:Int)=(dl:Int):=by omega
   have hdl9:(nd:Int)+(dl:Int)=(len:Int):=by omega
   rw [hdli];replace hdl:=Hd hdl;replace hdli:=Hd hdli;have hDq:=hD.out.drewN q;have hFq:Fr (fun k=>k=b) w (w.drewN q):=(Fr.refl _ _).drewN q;replace hDq:=Hd hDq;replace hFq:=Hd hFq;have hgd:=fun c hc=>hg.out.dig c hc;replace hgd:=Hd hgd;go_wp2_with fail
   go_loopw [5,6,7] (fun s5 s6 s7 wr=>∃j:Nat,j<=nd/\s5=.int .i64 ((nd:Int) - (j:Int) - 1)/\s6=.int .i64 ((len:Int) - (j:Int))/\s7=.int .u64 ((valD (d.L.drop (nd - j)) * 2 ^ k / 10 ^ j:Nat):Int) /\
       ∃g t,DM wr b g nd d.dp ng t/\Behind (lsO k d) f g d.tr t (len - j)/\Fr (fun k=>k=b) w wr) (fun s5 _ _ _=>(intOf s5+1).toNat)
   case atStart=>
     refine ⟨0,Nat.zero_le _,by simp,by simp,?_,f,d.tr,hDq.out,?_,hFq.out⟩
     · rw [Nat.sub_zero,hnd.out,List.drop_length];simp [valD]
     · rw [Nat.sub_zero,hln.out];exact .start
   case round=>
     obtain ⟨j,hj,rfl,rfl,rfl,g,t,hDM,hB,hF⟩:=hrel;by_cases hjn:j<nd
     · obtain ⟨i,hi⟩:∃i,i=nd - 1 - j:=⟨_,rfl⟩
       obtain ⟨p,hp⟩:∃p,p=len - 1 - j:=⟨_,rfl⟩;obtain ⟨A,hA⟩:∃A,A=valD (d.L.drop (nd - j)) * 2 ^ k / 10 ^ j:=⟨_,rfl⟩;rw [<-hA];have hjL:j<d.L.length:=by rw [<-hnd.out];exact hjn
       have hiL:i<d.L.length:=by rw [<-hnd.out];omega
       obtain ⟨c,hc⟩:∃c,c=d.L[i]:=⟨_,rfl⟩;obtain ⟨st1,st2,st3,st4⟩:=ls_stepN (k:=k) (c:=c) hnd.out hgd.out hjn hi (by rw [hc];exact List.getElem?_eq_getElem hiL);rw [<-hA] at st1 st4;obtain ⟨V,hV⟩:∃V,V=valD (d.L.drop (nd - (j+1))) * 2 ^ k / 10 ^ j:=⟨_,rfl⟩;rw [<-hV] at st1 st2 st3;have hcd:isD c=true:=by rw [hc];exact hgd.out _ (List.getElem_mem hiL)
       have hc9:=Ew hcd;have hct48:48<=c.toNat/\c.toNat<=57:=by unfold isD at hcd;simpa using hcd
       obtain ⟨dd,hdd⟩:∃dd,dd=dv c:=⟨_,rfl⟩;rw [<-hdd] at st1 hc9;have hdd2:(c.toNat:Int) - 48=(dd:Int):=by rw [hdd];unfold dv;omega
       have h260:2 ^ k<=1152921504606846976:=by
         have:2 ^ k<=2 ^ 60:=Nat.pow_le_pow_right (by decide) hk;exact this
       obtain ⟨sh,hsh⟩:∃sh,sh=dd * 2 ^ k:=⟨_,rfl⟩;have hsh9:sh<=9 * 1152921504606846976:=by rw [hsh];exact Nat.mul_le_mul hc9 h260
       have hsh2:(dd:Int) * 2 ^ k=(sh:Int):=by rw [hsh];simp
       rw [<-hsh] at st1;have hA9:A<=1152921504606846976:=by omega
       have hAV:(A:Int)+(sh:Int)=(V:Int):=by omega
       have hV9:V<=11529215046068469760:=by omega
       have hgi:g i=c:=by
         have h1:=hB.rest i (by omega);have hrw:=hrow.out;rw [hnd.out] at hrw;rw [h1,row_at hrw hiL,<-hc]
       have hcell:=hDM.dig i (by omega);rw [hgi] at hcell;have hii:(nd:Int) - (j:Int) - 1=(i:Int):=by omega
       have hi8:(i:Int)<800:=by omega
       have hi1:(i:Int) - 1=(nd:Int) - ((j+1:Nat):Int) - 1:=by omega
       obtain ⟨Q,hQ⟩:∃Q,Q=V / 10:=⟨_,rfl⟩;obtain ⟨r,hr⟩:∃r,r=V % 10:=⟨_,rfl⟩;rw [<-hQ] at st2;have hrT:r=valD d.L * 2 ^ k / 10 ^ j % 10:=by rw [hr];exact st3
       replace hi1:=Hd hi1;replace st2:=Hd st2;replace hi:=Hd hi;have hp9:p+1=len - j:=by omega
       replace hp:=Hd hp;replace hA:=Hd hA;replace hV:=Hd hV;replace hc:=Hd hc;replace hdd:=Hd hdd;replace hsh:=Hd hsh;clear st1 st3 st4 hgi hDq hFq hcd hct48 h260;have hr9:r<10:=by rw [hr];exact Nat.mod_lt _ (by decide)
       have hQ9:Q<=V:=by rw [hQ];exact Nat.div_le_self _ _
       have y1:(V:Int).tdiv 10=(Q:Int):=by rw [Int.tdiv_eq_ediv_of_nonneg (by omega)];omega
       have y2:(V:Int) / 10=(Q:Int):=by omega
       have y3:(V:Int) - 10 * (Q:Int)=(r:Int):=by omega
       have y4:(len:Int) - (j:Int) - 1=(p:Int):=by omega
       have y5:(r:Int)+48=((dg8 r).toNat:Int):=by unfold dg8;rw [Cl hr9];omega
       have hcp:=hDM.dig;have hz:=hDM.blk.frz p none;have hzt:=hDM.blk.frz 803 none;have hct:=hDM.cut;have hput:=fun h8=>hDM.put (i:=p) h8 (dg8 r);have hset:=hDM.setT true;have hlp:p<(lsO k d).length:=by rw [<-hln.out];omega
       have hOp:(lsO k d)[p]'hlp=dg8 r:=by
         obtain ⟨r', e1,e2,_⟩:=ls_at k d (j:=j) (by rw [<-hln.out];omega);have e3:(lsO k d).length - 1 - j=p:=by rw [<-hln.out];omega
         simp only [e3] at e1;rw [e1,e2,hrT]
       have hBp:Behind (lsO k d) f g d.tr t (p+1):=by rw [hp9];exact hB
       have hfin:((len:Int) - ((j+1:Nat):Int))=(p:Int):=by omega
       have hpl:len - (j+1)=p:=by omega
       replace hrT:=Hd hrT;replace hfin:=Hd hfin;replace hpl:=Hd hpl;replace hOp:=Hd hOp;replace hset:=Hd hset;replace hB:=Hd hB;have hlp' := hlp;replace hp9:=Hd hp9;replace hr:=Hd hr;replace hQ:=Hd hQ;by_cases h8:p<800
       · have hcp' := hcp p h8
         have hput' := hput h8;have hBn:=hBp.put hlp h8;rw [hOp.out] at hBn;replace hlp:=Hd hlp;replace hlp' := Hd hlp';have h8i:(p:Int)<800:=by omega
         replace hBn:=Hd hBn;replace hput' := Hd hput';replace hput:=Hd hput;replace hcp:=Hd hcp;replace hBp:=Hd hBp;replace hDM:=Hd hDM;replace hF:=Hd hF;go_wp2_with fail
         go_round
         case rel=>exact ⟨j+1,by omega,(by rw [hi1.out]),(by rw [hfin.out]),(by rw [st2.out]),stF g p (dg8 r),t,hput'.out,by rw [hpl.out];exact hBn.out,hF.out.setCell (fun _=>rfl) _⟩
         case measure=>simp [intOf];omega
       · have h8i:¬(p:Int)<800:=by omega
         have hBn:=hBp.skip hlp (by omega);rw [hOp.out,dg8_ne hr9] at hBn;replace hlp:=Hd hlp;replace hlp' := Hd hlp';replace hput:=Hd hput;replace hcp:=Hd hcp;replace hBp:=Hd hBp;replace hDM:=Hd hDM;replace hF:=Hd hF;by_cases hr0:r=0
         · rw [decide_eq_false (by omega),Bool.or_false] at hBn
           have hb0:((r:Int) != 0)=false:=by rw [hr0];rfl
           replace hBn:=Hd hBn;replace hr0:=Hd hr0;go_wp2_with fail
           go_round
           case rel=>exact ⟨j+1,by omega,(by rw [hi1.out]),(by rw [hfin.out]),(by rw [st2.out]),g,t,hDM.out,by rw [hpl.out];exact hBn.out,hF.out⟩
           case measure=>simp [intOf];omega
         · rw [decide_eq_true (by omega),Bool.or_true] at hBn
           have hb0:((r:Int) != 0)=true:=by simp;omega
           replace hBn:=Hd hBn;replace hr0:=Hd hr0;go_wp2_with fail
           go_round
           case rel=>exact ⟨j+1,by omega,(by rw [hi1.out]),(by rw [hfin.out]),(by rw [st2.out]),g,true,hset.out,by rw [hpl.out];exact hBn.out,hF.out.setCell (fun _=>rfl) _⟩
           case measure=>simp [intOf];omega
     · have hje:nd=j:=by omega
       subst hje;obtain ⟨T,hT⟩:∃T,T=valD d.L * 2 ^ k:=⟨_,rfl⟩;have hT0:0<T:=by
         rw [hT];exact Nat.mul_pos (Nat.lt_of_lt_of_le (Nat.pow_pos (by decide)) hv.out.1) (Nat.two_pow_pos k)
       have hlenT:len=Lib.nDigits T:=by rw [hln.out,hT];unfold lsO;exact Lib.decDigits_length _
       rw [Nat.sub_self,List.drop_zero,<-hT];have hs5:(nd:Int) - (nd:Int) - 1=-1:=by omega
       have hTb:T / 10 ^ nd<=1152921504606846976:=by
         have h260:2 ^ k<=1152921504606846976:=by
           have:2 ^ k<=2 ^ 60:=Nat.pow_le_pow_right (by decide) hk;exact this
         have hvl:=C7 hgd.out;rw [<-hnd.out] at hvl;have hp:0<10 ^ nd:=Nat.pow_pos (by decide);rw [hT];refine Nat.le_trans (Nat.div_le_div_right (c:=10 ^ nd) (Nat.mul_le_mul_right (2 ^ k) (Nat.le_of_lt hvl))) ?_;rw [Nat.mul_comm,Nat.mul_div_cancel _ hp];exact h260
       replace hDM:=Hd hDM;replace hB:=Hd hB;replace hF:=Hd hF;replace hT:=Hd hT;replace hlenT:=Hd hlenT;replace hTb:=Hd hTb;clear hDq hFq hj hjn;go_wp2_with fail
       go_loopw [6,7] (fun s6 s7 wx=>∃j:Nat,j<=len/\nd<=j/\s6=.int .i64 ((len:Int) - (j:Int))/\s7=.int .u64 ((T / 10 ^ j:Nat):Int) /\
           ∃g t,DM wx b g nd d.dp ng t/\Behind (lsO k d) f g d.tr t (len - j)/\Fr (fun k=>k=b) w wx) (fun s6 _ _=>(intOf s6).toNat)
       case atStart=>exact ⟨nd,hndl,Nat.le_refl _,rfl,rfl,g,t,hDM.out,hB.out,hF.out⟩
       case round=>
         clear hDM hB hF;obtain ⟨j,hjl,hnj,rfl,rfl,g,t,hDM,hB,hF⟩:=hrel;obtain ⟨V,hV⟩:∃V,V=T / 10 ^ j:=⟨_,rfl⟩;have hV9:V<=1152921504606846976:=by
           refine Nat.le_trans ?_ hTb.out;rw [hV];exact Nat.div_le_div_left (Nat.pow_le_pow_right (by decide) hnj) (Nat.pow_pos (by decide))
         by_cases hV0:0<V
         · have hjlt:j<len:=by rw [hlenT.out];exact ls_more (by rw [<-hV];exact hV0)
           have hV0i:(0:Int)<(V:Int):=by omega
           obtain ⟨p,hp⟩:∃p,p=len - 1 - j:=⟨_,rfl⟩;obtain ⟨Q,hQ⟩:∃Q,Q=V / 10:=⟨_,rfl⟩;obtain ⟨r,hr⟩:∃r,r=V % 10:=⟨_,rfl⟩;have st2:Q=T / 10 ^ (j+1):=by rw [hQ,hV];exact ls_div
           have hrT:r=valD d.L * 2 ^ k / 10 ^ j % 10:=by rw [hr,hV,hT.out]
           have hp9:p+1=len - j:=by omega
           rw [<-hV];replace st2:=Hd st2;replace hp:=Hd hp;replace hV:=Hd hV;clear hjl;have hr9:r<10:=by rw [hr];exact Nat.mod_lt _ (by decide)
           have hQ9:Q<=V:=by rw [hQ];exact Nat.div_le_self _ _
           have y1:(V:Int).tdiv 10=(Q:Int):=by rw [Int.tdiv_eq_ediv_of_nonneg (by omega)];omega
           have y2:(V:Int) / 10=(Q:Int):=by omega
           have y3:(V:Int) - 10 * (Q:Int)=(r:Int):=by omega
           have y4:(len:Int) - (j:Int) - 1=(p:Int):=by omega
           have y5:(r:Int)+48=((dg8 r).toNat:Int):=by unfold dg8;rw [Cl hr9];omega
           have hcp:=hDM.dig;have hz:=hDM.blk.frz p none;have hzt:=hDM.blk.frz 803 none;have hct:=hDM.cut;have hput:=fun h8=>hDM.put (i:=p) h8 (dg8 r);have hset:=hDM.setT true;have hlp:p<(lsO k d).length:=by rw [<-hln.out];omega
           have hOp:(lsO k d)[p]'hlp=dg8 r:=by
             obtain ⟨r', e1,e2,_⟩:=ls_at k d (j:=j) (by rw [<-hln.out];omega);have e3:(lsO k d).length - 1 - j=p:=by rw [<-hln.out];omega
             simp only [e3] at e1;rw [e1,e2,hrT]
           have hBp:Behind (lsO k d) f g d.tr t (p+1):=by rw [hp9];exact hB
           have hfin:((len:Int) - ((j+1:Nat):Int))=(p:Int):=by omega
           have hpl:len - (j+1)=p:=by omega
           replace hrT:=Hd hrT;replace hfin:=Hd hfin;replace hpl:=Hd hpl;replace hOp:=Hd hOp;replace hset:=Hd hset;replace hB:=Hd hB;have hlp' := hlp;replace hp9:=Hd hp9;replace hr:=Hd hr;replace hQ:=Hd hQ;by_cases h8:p<800
           · have hcp' := hcp p h8
             have hput' := hput h8;have hBn:=hBp.put hlp h8;rw [hOp.out] at hBn;replace hlp:=Hd hlp;replace hlp' := Hd hlp';have h8i:(p:Int)<800:=by omega
             replace hBn:=Hd hBn;replace hput' := Hd hput';replace hput:=Hd hput;replace hcp:=Hd hcp;replace hBp:=Hd hBp;replace hDM:=Hd hDM;replace hF:=Hd hF;go_wp2_with fail
             go_round
             case rel=>exact ⟨j+1,by omega,(by omega),(by rw [hfin.out]),(by rw [st2.out]),stF g p (dg8 r),t,hput'.out,by rw [hpl.out];exact hBn.out,hF.out.setCell (fun _=>rfl) _⟩
             case measure=>simp [intOf];omega
           · have h8i:¬(p:Int)<800:=by omega
             have hBn:=hBp.skip hlp (by omega);rw [hOp.out,dg8_ne hr9] at hBn;replace hlp:=Hd hlp;replace hlp' := Hd hlp';replace hput:=Hd hput;replace hcp:=Hd hcp;replace hBp:=Hd hBp;replace hDM:=Hd hDM;replace hF:=Hd hF;by_cases hr0:r=0
             · rw [decide_eq_false (by omega),Bool.or_false] at hBn
               have hb0:((r:Int) != 0)=false:=by rw [hr0];rfl
               replace hBn:=Hd hBn;replace hr0:=Hd hr0;go_wp2_with fail
               go_round
               case rel=>exact ⟨j+1,by omega,(by omega),(by rw [hfin.out]),(by rw [st2.out]),g,t,hDM.out,by rw [hpl.out];exact hBn.out,hF.out⟩
               case measure=>simp [intOf];omega
             · rw [decide_eq_true (by omega),Bool.or_true] at hBn
               have hb0:((r:Int) != 0)=true:=by simp;omega
               replace hBn:=Hd hBn;replace hr0:=Hd hr0;go_wp2_with fail
               go_round
               case rel=>exact ⟨j+1,by omega,(by omega),(by rw [hfin.out]),(by rw [st2.out]),g,true,hset.out,by rw [hpl.out];exact hBn.out,hF.out.setCell (fun _=>rfl) _⟩
               case measure=>simp [intOf];omega
         · have hV00:V=0:=by omega
           have hj9:j=len:=by
             have:=ls_done hT0 (by rw [<-hV];exact hV00);rw [<-hlenT.out] at this;omega
           subst hV00;subst hj9;rw [Nat.sub_self] at hB;obtain ⟨w1,w2⟩:=hB.whole;rw [<-hV];rw [<-hln.out] at w1;have hfinal:lsD k d=Ev (row g (min 800 j)) (d.dp+(dl:Int)) t:=by
             have hd:(dl:Int)=(j:Int) - (nd:Int):=by omega
             unfold lsD;rw [<-w1,<-w2,<-hln.out,<-hnd.out,hd]
           replace w1:=Hd w1;replace w2:=Hd w2;have c0:=hDM.nd;have c1:=hDM.pt;have z0:=hDM.blk.frz 800 none;have z1:=hDM.blk.frz 801 none;replace hV:=Hd hV;replace hfinal:=Hd hfinal;replace hB:=Hd hB;clear hT0 hV0 hjl hnj cp;by_cases h8:800<=j
           · have h8i:(800:Int)<=(j:Int):=by omega
             have hm:min 800 j=800:=by omega
             have hD3:=((hDM.setN j).setN 800).setP (d.dp+(dl:Int));have hF3:=((hF.setCell (p:=⟨b,800,none⟩) (fun _=>rfl) (.int .i64 (j:Int))).setCell (p:=⟨b,800,none⟩) (fun _=>rfl) (.int .i64 ((800:Nat):Int))).setCell (p:=⟨b,801,none⟩) (fun _=>rfl) (.int .i64 (d.dp+(dl:Int)));have htr:=dtrim_any hD3 (Nat.le_refl _);rw [hm] at hfinal;rw [<-hfinal.out] at htr;replace htr:=Hd htr;replace hD3:=Hd hD3;replace hF3:=Hd hF3;replace hDM:=Hd hDM;replace hF:=Hd hF;replace hfinal:=Hd hfinal;replace hm:=Hd hm;go_wp2_with fail
             refine htr.out.mono ?_;rintro e w' ⟨rfl,hd', hf'⟩;replace hd' := Hd hd';replace hf' := Hd hf';go_wp2
             go_end0
             exact ⟨rfl,hd'.out,hF3.out.trans hf'.out⟩
           · have h8i:¬(800:Int)<=(j:Int):=by omega
             have hm:min 800 j=j:=by omega
             have hD3:=(hDM.setN j).setP (d.dp+(dl:Int));have hF3:=(hF.setCell (p:=⟨b,800,none⟩) (fun _=>rfl) (.int .i64 (j:Int))).setCell (p:=⟨b,801,none⟩) (fun _=>rfl) (.int .i64 (d.dp+(dl:Int)));have htr:=dtrim_any hD3 (by omega);rw [hm] at hfinal;rw [<-hfinal.out] at htr;replace htr:=Hd htr;replace hD3:=Hd hD3;replace hF3:=Hd hF3;replace hDM:=Hd hDM;replace hF:=Hd hF;replace hfinal:=Hd hfinal;replace hm:=Hd hm;go_wp2_with fail
             refine htr.out.mono ?_;rintro e w' ⟨rfl,hd', hf'⟩;replace hd' := Hd hd';replace hf' := Hd hf';go_wp2
             go_end0
             exact ⟨rfl,hd'.out,hF3.out.trans hf'.out⟩
theorem tail_fuel {k:Nat}:∀{g n f:Nat},TailI k g n->g<=f->Cb k f n=Cb k g n
 | 0,n,f,h,_=>by rw [h.zero rfl,Eg,Eg]
 | g+1,n,0,_,h=>absurd h (by omega)
 | g+1,n,f+1,h,hf=>by
   by_cases h0:n=0
   · rw [h0,Eg,Eg]
   · rw [Fu h0,Fu h0,tail_fuel h.next (by omega)]
theorem mask_mod {k x:Nat} (hk:k<=60) (hx:x<18446744073709551616):bits .and .u64 (x:Int) ((2 ^ k - 1:Nat):Int)=((x % 2 ^ k:Nat):Int):=by
 have h1:2 ^ k<=2 ^ 60:=Nat.pow_le_pow_right (by decide) hk;have h2:(2:Nat) ^ 60=1152921504606846976:=by decide
 have:=Ce (x:=x) (y:=2 ^ k - 1) hx (by omega);rw [Nat.and_two_pow_sub_one_eq_mod] at this;exact this
set_option maxRecDepth 100000 in
set_option maxHeartbeats 6400000 in
theorem right_any' {w:World} {b k:Nat} {d:Dec} {ng:Bool} (h:Dm w b d ng) (hg:d.Good) (hk1:1<=k) (hk:k<=60) (hp0:-1000000<=d.dp) (hp1:d.dp<=1000000) :
   Calls Tryz.prog 183 #[.pointer (some ⟨b,0,none⟩),.int .u64 (k:Int)] w fun e w' => e=.returned (.tuple #[])/\Dm w' b (rsD k d) ng/\Fr (fun k=>k=b) w w' := by
 obtain ⟨f,hD,hrow⟩:=h
 obtain ⟨_,_,gd3,gd4,gd5,gd6,gd7,c1,l1,c1', l1', gh,_,gh1,gh2,_⟩:=rs_good hg hk1 hk
 obtain ⟨K,hK⟩:∃K,K=2 ^ k:=⟨_,rfl⟩
 have hK2:2<=K:=by
   have:2 ^ 1<=2 ^ k:=Nat.pow_le_pow_right (by decide) hk1;rw [hK];exact this
 have hK9:K<=1152921504606846976:=by
   have:2 ^ k<=2 ^ 60:=Nat.pow_le_pow_right (by decide) hk;rw [hK];exact this
 have hKi:(2:Int) ^ k=(K:Int):=by rw [hK];simp
 have hn8:=hg.len
 have hgd:=hg.dig
 have hki:(k:Int)<=60:=by omega
 have hk64:(k:Int)<64:=by omega
 have hk0:(0:Int)<=(k:Int):=by omega
 have c0:=hD.nd
 have cp:=hD.pt
 obtain ⟨nd,hnd⟩:∃nd,nd=d.L.length:=⟨_,rfl⟩
 rw [<-hnd] at hD c0 hrow hn8
 have hnd1:1<=nd:=by rw [hnd,gh];simp
 obtain ⟨r0,hr0⟩:∃r0,r0=(rsP k d).2.1+(rsF k d).2:=⟨_,rfl⟩
 obtain ⟨N0,hN0⟩:∃N0,N0=(rsF k d).1:=⟨_,rfl⟩
 rw [<-hr0] at gd3 gd4
 rw [<-hN0,<-hK] at gd6 gd7
 have hr01:1<=r0:=Nat.le_trans (Dp (Nat.two_pow_pos k)).1 gd3
 have hr09:r0<=20:=by
   have:Lib.nDigits (2 ^ k)<=19:=by
     refine Cx (Nat.two_pow_pos k) ?_;rw [<-hK];have:(1152921504606846976:Nat)<10 ^ 19:=by decide
     omega
   omega
 have hat:∀i (hi:i<d.L.length),f i=d.L[i]:=fun i hi=>row_at (by rw [<-hnd];exact hrow) hi
 replace hat:=Hd hat
 replace hD:=Hd hD
 replace hrow:=Hd hrow
 replace hgd:=Hd hgd
 replace hg:=Hd hg
 replace hnd:=Hd hnd
 replace hr0:=Hd hr0
 replace hN0:=Hd hN0
 replace hK:=Hd hK
 replace gh:=Hd gh
 clear gd3 gd4 gd5
 go_enter Tryz.func183,Tryz.ntmps183
 go_upto_block 0 with fail
 go_cut [4,6] from 14 to 48 (fun s4 s6 wx=>s4=.int .i64 (r0:Int)/\s6=.int .u64 (N0:Int)/\wx=w/\d.L.drop r0=(rsP k d).2.2)
 case first=>
   go_wp2_with fail
   go_loop [4,6] (fun s4 s6=>∃j N:Nat,j<=nd/\s4=.int .i64 (j:Int)/\s6=.int .u64 (N:Int)/\(j=0/\N=0\/0<N)/\N<10 * K/\rsP k d=((A6 k N (d.L.drop j)).1,j+(A6 k N (d.L.drop j)).2.1,(A6 k N (d.L.drop j)).2.2)) (fun s4 _=>nd+1 - (intOf s4).toNat)
   case atStart=>exact ⟨0,0,Nat.zero_le _,rfl,rfl,.inl ⟨rfl,rfl⟩,by omega,by unfold rsP;simp⟩
   case round=>
     obtain ⟨j,N,hj,rfl,rfl,hpos,hlt,hP⟩:=hrel;have hdiv:(N:Int) / (K:Int)=((N / K:Nat):Int):=by simp
     by_cases hst:N / K=0
     · have hdiv0:(N:Int) / (K:Int)=0:=by rw [hdiv,hst];rfl
       have hNK:N<K:=by
         rcases Nat.lt_or_ge N K with h9 | h9
         · exact h9
         · have:=Nat.div_pos h9 (by omega);omega
       rw [hK.out] at hst;clear hdiv;by_cases hjn:j<nd
       · have hjL:j<d.L.length:=by rw [<-hnd.out];exact hjn
         have hjni:(j:Int)<(nd:Int):=by omega
         obtain ⟨c,hc⟩:∃c,c=d.L[j]:=⟨_,rfl⟩;have hcd:isD c=true:=by rw [hc];exact hgd.out _ (List.getElem_mem hjL)
         have hc9:=Ew hcd;have hct48:48<=c.toNat/\c.toNat<=57:=by unfold isD at hcd;simpa using hcd
         have hcell:=hD.out.dig j (by omega);rw [hat.out j hjL,<-hc] at hcell;rw [List.drop_eq_getElem_cons hjL,<-hc,pick_more hst] at hP;dsimp only at hP;obtain ⟨dd,hdd⟩:∃dd,dd=dv c:=⟨_,rfl⟩;rw [<-hdd] at hP hc9;have hcd2:(N:Int) * 10+(c.toNat:Int) - 48=((N * 10+dd:Nat):Int):=by rw [hdd];unfold dv;omega
         obtain ⟨N', hN'⟩:∃N', N' = N * 10+dd:=⟨_,rfl⟩;rw [<-hN'] at hP hcd2;have hpos' : 0<N' := by
           rcases hpos with ⟨e1,e2⟩ | e
           · have h1:=List.getElem?_eq_getElem hjL
             rw [<-hc] at h1;rw [e1,gh.out] at h1;have h2:c1=c:=Option.some.inj h1;rw [hN', hdd,<-h2];omega
           · omega
         have hP2:rsP k d=((A6 k N' (d.L.drop (j+1))).1,(j+1)+(A6 k N' (d.L.drop (j+1))).2.1,(A6 k N' (d.L.drop (j+1))).2.2):=by
           rw [hP];congr 2;omega
         replace hP:=Hd hP;replace hP2:=Hd hP2;replace hdd:=Hd hdd;have hN9:N' < 10 * K:=by omega
         replace hN' := Hd hN';replace hc:=Hd hc;replace hst:=Hd hst;have hj8:(j:Int)<800:=by omega
         clear hpos hcd;go_wp2_with fail
         go_round
         case rel=>exact ⟨j+1,N', by omega,by go_num,rfl,.inr hpos', hN9,hP2.out⟩
         case measure=>simp [intOf];omega
       · have hjn' : j=nd:=by omega
         have hpos' : 0<N:=by omega
         have hdr:d.L.drop j=[]:=List.drop_eq_nil_of_le (by rw [<-hnd.out];omega);rw [hdr] at hP;have hP1:rsP k d=(N,j,[]):=hP;have hFd:rsF k d=Ca k 20 N:=by unfold rsF;rw [hP1]
         have hjge:(nd:Int)<=(j:Int):=by omega
         have hN0' : ((N:Int) == 0)=false:=by simp;omega
         have hten:2 ^ k<=N * 10 ^ 20:=ten_fill hk hpos';replace hten:=Hd hten;replace hP:=Hd hP;replace hP1:=Hd hP1;replace hFd:=Hd hFd;replace hdr:=Hd hdr;replace hst:=Hd hst;replace hjn' := Hd hjn';clear hpos;go_wp2_with fail
         go_loop [4,6] (fun s4 s6=>∃i M fu:Nat,i+fu=20/\s4=.int .i64 ((j+i:Nat):Int)/\s6=.int .u64 (M:Int)/\0<M/\M<10 * K/\2 ^ k<=M * 10 ^ fu/\rsF k d=((Ca k fu M).1,i+(Ca k fu M).2)) (fun s4 _=>nd+30 - (intOf s4).toNat)
         case atStart=>exact ⟨0,N,20,rfl,rfl,rfl,hpos', hlt,hten.out,by rw [hFd.out];simp⟩
         case round=>
           obtain ⟨i,M,fu,hifu,rfl,rfl,hM,hM9,hM2,hF⟩:=hrel;have hdiv:(M:Int) / (K:Int)=((M / K:Nat):Int):=by simp
           have hjn9:=hjn'.out;by_cases hs2:M / K=0
           · have hd0:(M:Int) / (K:Int)=0:=by rw [hdiv,hs2];rfl
             have hMK:M<K:=by
               rcases Nat.lt_or_ge M K with h9 | h9
               · exact h9
               · have:=Nat.div_pos h9 (by omega);omega
             rw [hK.out] at hs2;rcases fu with _ | fu
             · exfalso
               rw [Nat.pow_zero,Nat.mul_one,<-hK.out] at hM2;omega
             · rw [fill_more hs2] at hF
               dsimp only at hF;have hM2' : 2 ^ k<=M * 10 * 10 ^ fu:=by
                 rw [Nat.pow_succ,Nat.mul_comm (10 ^ fu),<-Nat.mul_assoc] at hM2;exact hM2
               have hF' : rsF k d=((Ca k fu (M * 10)).1,(i+1)+(Ca k fu (M * 10)).2):=by rw [hF];congr 1;omega
               replace hF:=Hd hF;replace hF' := Hd hF';replace hM2:=Hd hM2;replace hM2' := Hd hM2';replace hs2:=Hd hs2;replace hjn9:=Hd hjn9;clear hdiv;go_wp2_with fail
               go_round
               case rel=>exact ⟨i+1,M * 10,fu,by omega,by go_num,by go_num,by omega,by omega,hM2'.out,hF'.out⟩
               case measure=>have:=hjn9.out;simp [intOf];omega
           · have hdn:((M:Int) / (K:Int) == 0)=false:=by rw [hdiv];simp;omega
             have hs2' := hs2;rw [hK.out] at hs2';rw [fill_stop hs2'] at hF;dsimp only at hF;have e1:r0=j+i:=by rw [hr0.out,hF,hP1.out];rfl
             have e2:N0=M:=by rw [hN0.out,hF]
             have e3:d.L.drop r0=(rsP k d).2.2:=by rw [hP1.out,e1,<-List.drop_drop,hdr.out];simp
             replace hF:=Hd hF;replace e1:=Hd e1;replace e2:=Hd e2;replace e3:=Hd e3;replace hM2:=Hd hM2;replace hjn9:=Hd hjn9;clear hdiv hs2';go_wp2_with fail
             go_meet
             exact ⟨by rw [e1.out];simp,by rw [e2.out],rfl,e3.out⟩
     · have hdivn:((N:Int) / (K:Int) == 0)=false:=by rw [hdiv];simp;omega
       have hst' := hst;rw [hK.out] at hst';rw [pick_stop hst'] at hP;have hF:rsF k d=(N,0):=by unfold rsF;rw [hP];exact fill_stop hst'
       have e1:r0=j:=by rw [hr0.out,hF,hP];rfl
       have e2:N0=N:=by rw [hN0.out,hF]
       have e3:d.L.drop r0=(rsP k d).2.2:=by rw [hP,e1]
       replace hP:=Hd hP;replace hF:=Hd hF;replace e1:=Hd e1;replace e2:=Hd e2;replace e3:=Hd e3;clear hdiv hst' hpos;go_wp2_with fail
       go_meet
       exact ⟨by rw [e1.out],by rw [e2.out],rfl,e3.out⟩
 case rest=>
   obtain ⟨rfl,rfl,hww,hdrop⟩:=hcut;obtain rfl:=hww.symm;clear hww gh gh1 gh2;obtain ⟨dq,hdq⟩:∃dq:Int,dq=d.dp - ((r0:Int) - 1):=⟨_,rfl⟩;have hdq2:d.dp - ((r0:Int) - 1)=dq:=hdq.symm;have hdq9:-2000000<=dq/\dq<=2000000:=by omega
   obtain ⟨M,hM⟩:∃M,M=K - 1:=⟨_,rfl⟩;have hMi:(K:Int) - 1=(M:Int):=by omega
   have hmask:∀x:Nat,x<18446744073709551616->bits .and .u64 (x:Int) (M:Int)=((x % K:Nat):Int):=fun x hx=>by
     have:=mask_mod hk hx;rw [<-hK.out] at this;rw [hM];exact this
   have hrsO:rsO k d=(outR k N0 (d.L.drop r0)).1++Cb k (k+2) (outR k N0 (d.L.drop r0)).2:=by unfold rsO;rw [<-hN0.out,hdrop]
   have z1:=hD.out.blk.frz 801 none;have hD1:=hD.out.setP dq;have hF1:Fr (fun k=>k=b) w (w.setCell ⟨b,801,none⟩ (.int .i64 dq)):=Fr.setCell (S:=fun k=>k=b) (Fr.refl _ _) (fun _=>rfl) _;replace hdq:=Hd hdq;replace hM:=Hd hM;replace hmask:=Hd hmask;replace hrsO:=Hd hrsO;replace hD1:=Hd hD1;replace hF1:=Hd hF1;replace hdrop:=Hd hdrop;go_wp2_with fail
   go_loopw [4,5,6] (fun s4 s5 s6 wr=>∃p r N:Nat,s4=.int .i64 (r:Int)/\s5=.int .i64 (p:Int)/\s6=.int .u64 (N:Int)/\p<r/\N<10 * K/\(r<=nd\/r<=20)/\(p=0\/p<nd) /\
       ∃g P,P.length=p/\row g p=P/\(∀i,p<=i->g i=f i)/\rsO k d=P++(outR k N (d.L.drop r)).1++Cb k (k+2) (outR k N (d.L.drop r)).2/\DM wr b g nd dq ng d.tr/\Fr (fun k=>k=b) w wr) (fun s4 _ _ _=>nd - (intOf s4).toNat)
   case atStart=>exact ⟨0,r0,N0,rfl,rfl,rfl,by omega,gd7,.inr hr09,.inl rfl,f,[],rfl,rfl,fun _ _=>rfl,by rw [hrsO.out];rfl,hD1.out,hF1.out⟩
   case round=>
     obtain ⟨p,r,N,rfl,rfl,rfl,hpr,hN9,hr9,hp9,g,P,hPl,hrowP,hrest,hO,hDM,hF⟩:=hrel;clear hD1 hF1 hrsO;have c0:=hDM.nd;by_cases hrn:r<nd
     · have hrL:r<d.L.length:=by rw [<-hnd.out];exact hrn
       have hrni:(r:Int)<(nd:Int):=by omega
       have hr8:(r:Int)<800:=by omega
       have hp8:(p:Int)<800:=by omega
       obtain ⟨c,hc⟩:∃c,c=d.L[r]:=⟨_,rfl⟩;have hcd:isD c=true:=by rw [hc];exact hgd.out _ (List.getElem_mem hrL)
       have hc9:=Ew hcd;have hct48:48<=c.toNat/\c.toNat<=57:=by unfold isD at hcd;simpa using hcd
       have hcell:=hDM.dig r (by omega);rw [hrest r (by omega),hat.out r hrL,<-hc] at hcell;have hcp:=hDM.dig p (by omega);have zp:=hDM.blk.frz p none;obtain ⟨q,hq⟩:∃q,q=N / K:=⟨_,rfl⟩;obtain ⟨m,hm⟩:∃m,m=N % K:=⟨_,rfl⟩;have hdiv:(N:Int) / (K:Int)=(q:Int):=by rw [hq];simp
       have hq10:q<10:=by rw [hq];exact (Nat.div_lt_iff_lt_mul (by omega)).2 hN9
       have hmK:m<K:=by rw [hm];exact Nat.mod_lt _ (by omega)
       have hand:bits .and .u64 (N:Int) (M:Int)=(m:Int):=by rw [hm];exact hmask.out N (by omega)
       obtain ⟨N', hN'⟩:∃N', N' = m * 10+dv c:=⟨_,rfl⟩;have hnx:(m:Int) * 10+(c.toNat:Int) - 48=(N' : Int):=by rw [hN'];unfold dv;omega
       have hN'9:N' < 10 * K:=by omega
       have y5:(q:Int)+48=((dg8 q).toNat:Int):=by unfold dg8;rw [Cl hq10];omega
       have hO2:rsO k d=(P++[dg8 q])++(outR k N' (d.L.drop (r+1))).1++Cb k (k+2) (outR k N' (d.L.drop (r+1))).2:=by
         rw [hO,List.drop_eq_getElem_cons hrL,<-hc,outR];rw [hK.out] at hq hm;rw [<-hq,<-hm,<-hN'];dsimp only;rw [List.append_assoc P [dg8 q],List.singleton_append]
       have hput:=hDM.put (i:=p) (by omega) (dg8 q);have hrowP2:row (stF g p (dg8 q)) (p+1)=P++[dg8 q]:=by rw [row_put,hrowP]
       have hrest2:∀i,p+1<=i->stF g p (dg8 q) i=f i:=fun i hi=>by rw [stF_ne g _ (by omega)];exact hrest i (by omega)
       replace hcell:=hcell;replace hO:=Hd hO;replace hO2:=Hd hO2;replace hrowP:=Hd hrowP;replace hrowP2:=Hd hrowP2;replace hrest:=Hd hrest;replace hrest2:=Hd hrest2;replace hput:=Hd hput;replace hDM:=Hd hDM;replace hF:=Hd hF;replace hq:=Hd hq;replace hm:=Hd hm;replace hc:=Hd hc;replace hN' := Hd hN';replace hPl:=Hd hPl;clear hcd hct48 hc9;go_wp2_with fail
       go_round
       case rel=>exact ⟨p+1,r+1,N', by go_num,by go_num,rfl,by omega,hN'9,.inl (by omega),.inr (by omega),stF g p (dg8 q),P++[dg8 q],by rw [List.length_append,hPl.out];rfl,hrowP2.out,hrest2.out,hO2.out,hput.out,hF.out.setCell (fun _=>rfl) _⟩
       case measure=>simp [intOf];omega
     · have hrni:¬(r:Int)<(nd:Int):=by omega
       have hdr:d.L.drop r=[]:=List.drop_eq_nil_of_le (by rw [<-hnd.out];omega);rw [hdr,outR,List.append_nil] at hO;dsimp only at hO;have hFr0:Front P g d.tr d.tr p:=by
         refine ⟨by omega,?_,?_⟩
         · rw [hrowP,List.take_of_length_le (by omega)]
         · rw [List.drop_eq_nil_of_le (by omega)];simp
       have hT0:TailI k (k+2) N:=.start (by rw [<-hK.out];exact hN9);replace hO:=Hd hO;replace hFr0:=Hd hFr0;replace hT0:=Hd hT0;replace hDM:=Hd hDM;replace hF:=Hd hF;replace hdr:=Hd hdr;replace hPl:=Hd hPl;clear hrowP hrest;go_wp2_with fail
       go_loopw [5,6] (fun s5 s6 wx=>∃p N fu:Nat,s5=.int .i64 (p:Int)/\s6=.int .u64 (N:Int)/\TailI k fu N /\
           ∃g P t,Front P g d.tr t p/\rsO k d=P++Cb k fu N/\DM wx b g nd dq ng t/\Fr (fun k=>k=b) w wx) (fun _ s6 _=>(Cb k 100 (intOf s6).toNat).length)
       case atStart=>exact ⟨p,N,k+2,rfl,rfl,hT0.out,g,P,d.tr,hFr0.out,hO.out,hDM.out,hF.out⟩
       case round=>
         clear hDM hF hFr0 hT0 c0 hO hPl hN9;obtain ⟨p,N,fu,rfl,rfl,hTI,g,P,t,hFr,hO,hDM,hF⟩:=hrel;have hN9:=hTI.lt;rw [<-hK.out] at hN9;have hp9:p<=800:=by have:=hFr.len;omega
         by_cases hN0' : N=0
         · subst hN0'
           rw [Eg,List.append_nil] at hO;have hz:((0:Nat):Int)=0:=rfl;have hfinal:rsD k d=Ev (row g p) dq t:=by
             unfold rsD;rw [hO,<-hFr.row,<-hFr.cut];congr 1;rw [hdq.out,<-hr0.out];omega
           have c0:=hDM.nd;have zn:=hDM.blk.frz 800 none;have htr:=dtrim_any (hDM.setN p) hp9;have hF2:=Fr.setCell (p:=⟨b,800,none⟩) hF (fun _=>rfl) (.int .i64 (p:Int));rw [<-hfinal] at htr;replace hfinal:=Hd hfinal;replace htr:=Hd htr;replace hF2:=Hd hF2;replace hFr:=Hd hFr;replace hO:=Hd hO;replace hTI:=Hd hTI;replace hDM:=Hd hDM;replace hF:=Hd hF;go_wp2_with fail
           refine htr.out.mono ?_;rintro e w' ⟨rfl,hd', hf'⟩;replace hd' := Hd hd';replace hf' := Hd hf';go_wp2
           go_end0
           exact ⟨rfl,hd'.out,hF2.out.trans hf'.out⟩
         · have hNpos:(0:Int)<(N:Int):=by omega
           rcases fu with _ | fu
           · exact absurd (hTI.zero rfl) hN0'
           rw [Fu hN0'] at hO;have hTn:=hTI.next;have hmeas:(Cb k 100 (N % 2 ^ k * 10)).length<(Cb k 100 N).length:=by
             rw [tail_fuel hTI (by have:=hTI.le;omega),tail_fuel hTn (by have:=hTI.le;omega),Fu hN0', List.length_cons];omega
           obtain ⟨q,hq⟩:∃q,q=N / K:=⟨_,rfl⟩;obtain ⟨m,hm⟩:∃m,m=N % K:=⟨_,rfl⟩;have hdiv:(N:Int) / (K:Int)=(q:Int):=by rw [hq];simp
           have hq10:q<10:=by rw [hq];exact (Nat.div_lt_iff_lt_mul (by omega)).2 hN9
           have hmK:m<K:=by rw [hm];exact Nat.mod_lt _ (by omega)
           have hand:bits .and .u64 (N:Int) (M:Int)=(m:Int):=by rw [hm];exact hmask.out N (by omega)
           have hqk:N / 2 ^ k=q:=by rw [hq,hK.out]
           have hmk:N % 2 ^ k=m:=by rw [hm,hK.out]
           rw [hqk,hmk] at hO;rw [hmk] at hTn hmeas;have hO2:rsO k d=(P++[dg8 q])++Cb k fu (m * 10):=by rw [hO,List.append_assoc,List.singleton_append]
           have y5:(q:Int)+48=((dg8 q).toNat:Int):=by unfold dg8;rw [Cl hq10];omega
           replace hO:=Hd hO;replace hO2:=Hd hO2;replace hTn:=Hd hTn;replace hTI:=Hd hTI;replace hmeas:=Hd hmeas;replace hq:=Hd hq;replace hm:=Hd hm;replace hqk:=Hd hqk;replace hmk:=Hd hmk;by_cases h8:p<800
           · have h8i:(p:Int)<800:=by omega
             have hcp:=hDM.dig p h8;have zp:=hDM.blk.frz p none;have hput:=hDM.put (i:=p) h8 (dg8 q);have hFr2:=hFr.put h8 (dg8 q);replace hput:=Hd hput;replace hFr2:=Hd hFr2;replace hFr:=Hd hFr;replace hDM:=Hd hDM;replace hF:=Hd hF;go_wp2_with fail
             go_round
             case rel=>exact ⟨p+1,m * 10,fu,by go_num,by go_num,hTn.out,stF g p (dg8 q),P++[dg8 q],t,hFr2.out,hO2.out,hput.out,hF.out.setCell (fun _=>rfl) _⟩
             case measure=>
               simp [intOf];rw [show ((m:Int) * 10).toNat=m * 10 by omega];exact hmeas.out
           · have h8i:¬(p:Int)<800:=by omega
             have hFr2:=hFr.skip (by omega) (dg8 q);rw [dg8_ne hq10] at hFr2;have hct:=hDM.cut;have zt:=hDM.blk.frz 803 none;have hset:=hDM.setT true;replace hset:=Hd hset;replace hFr:=Hd hFr;replace hDM:=Hd hDM;replace hF:=Hd hF;by_cases hq0:0<q
             · have hq0i:(0:Int)<(q:Int):=by omega
               rw [decide_eq_true hq0,Bool.or_true] at hFr2;replace hFr2:=Hd hFr2;go_wp2_with fail
               go_round
               case rel=>exact ⟨p,m * 10,fu,rfl,by go_num,hTn.out,g,P++[dg8 q],true,hFr2.out,hO2.out,hset.out,hF.out.setCell (fun _=>rfl) _⟩
               case measure=>
               simp [intOf];rw [show ((m:Int) * 10).toNat=m * 10 by omega];exact hmeas.out
             · have hq0i:¬(0:Int)<(q:Int):=by omega
               rw [decide_eq_false hq0,Bool.or_false] at hFr2;replace hFr2:=Hd hFr2;go_wp2_with fail
               go_round
               case rel=>exact ⟨p,m * 10,fu,rfl,by go_num,hTn.out,g,P++[dg8 q],t,hFr2.out,hO2.out,hDM.out,hF.out⟩
               case measure=>
               simp [intOf];rw [show ((m:Int) * 10).toNat=m * 10 by omega];exact hmeas.out
set_option maxRecDepth 100000 in
set_option maxHeartbeats 3200000 in
theorem shiftL_any {w0 w:World} {b k:Nat} {d:Dec} {ng:Bool} (hw:Dn w0 w b) (h:Dm w b d ng) (hg:d.Good) (hk1:1<=k) (hk:k<=60) (hp0:-1000000<=d.dp) (hp1:d.dp<=1000000) :
   Calls Tryz.prog 147 #[.pointer (some ⟨b,0,none⟩),.int .i64 (k:Int)] w fun e w' => e=.returned (.tuple #[])/\Dm w' b (lsD k d) ng/\Fr (fun k=>k=b) w w' := by
 have hL:=dleft_any hw h hg hk1 hk hp0 hp1
 obtain ⟨f,hD,hrow⟩:=h
 have c0:=hD.nd
 have hnd:=hg.val.2
 have hn0:((d.L.length:Int) == 0)=false:=by rw [beq_eq_false_iff_ne];omega
 have hk0:(0:Int)<(k:Int):=by omega
 have hk60:¬(60:Int)<(k:Int):=by omega
 obtain ⟨nd,hndd⟩:∃nd,nd=d.L.length:=⟨_,rfl⟩
 rw [<-hndd] at hn0 c0
 replace hL:=Hd hL
 replace hndd:=Hd hndd
 clear hD hrow hg hw hnd
 go_enter Tryz.func147,Tryz.ntmps147
 go_wp2_with fail
 go_loop [1] (fun s1=>s1=.int .i64 (k:Int)) (fun _=>0)
 case atStart=>rfl
 case round=>
   obtain rfl:=hrel;go_wp2_with fail
   refine hL.out.mono ?_;rintro e w' ⟨rfl,h2⟩;replace h2:=Hd h2;go_wp2
   go_end0
   exact ⟨rfl,h2.out⟩
set_option maxRecDepth 100000 in
set_option maxHeartbeats 3200000 in
theorem shiftR_any {w:World} {b f n:Nat} {d:Dec} {ng:Bool} (h:Dm w b d ng) (hg:d.Good) (h1:1<=n) (hf:n<=60 * (f+1)) (hn:n<=200000) (hp0:-500000<=d.dp) (hp1:d.dp<=500000) (hfl:f<=20000) :
   Calls Tryz.prog 147 #[.pointer (some ⟨b,0,none⟩),.int .i64 (-(n:Int))] w fun e w' => e=.returned (.tuple #[])/\Dm w' b (shR f n d) ng/\Fr (fun k=>k=b) w w' := by
 have hD:=h
 obtain ⟨g,hDg,hrow⟩:=hD
 have c0:=hDg.nd
 have hnd:=hg.val.2
 have hn0:((d.L.length:Int) == 0)=false:=by rw [beq_eq_false_iff_ne];omega
 have hk0:-(n:Int)<0:=by omega
 have hk1:¬(0:Int) < -(n:Int):=by omega
 obtain ⟨nd,hndd⟩:∃nd,nd=d.L.length:=⟨_,rfl⟩
 rw [<-hndd] at hn0 c0
 obtain ⟨R,hR⟩:∃R,R=shR f n d:=⟨_,rfl⟩
 rw [<-hR]
 replace h:=Hd h
 replace hR:=Hd hR
 replace hndd:=Hd hndd
 replace hg:=Hd hg
 clear hDg hrow hnd
 go_enter Tryz.func147,Tryz.ntmps147
 go_wp2_with fail
 go_loopw [1] (fun s1 wr=>∃(m e:Nat) (d' : Dec),s1=.int .i64 (-(m:Int))/\1<=m/\m<=n/\e<=f/\m<=60 * (e+1)/\d'.Good/\d'.dp<=d.dp/\d.dp - 20 * ((f:Int) - e)<=d'.dp/\shR e m d' = R/\Dm wr b d' ng/\Fr (fun k=>k=b) w wr) (fun s1 _=>(-(intOf s1)).toNat)
 case atStart=>exact ⟨n,f,d,rfl,h1,Nat.le_refl _,Nat.le_refl _,hf,hg.out,Int.le_refl _,by omega,hR.out.symm,h.out,Fr.refl _ _⟩
 case round=>
   obtain ⟨m,e,d', rfl,hm1,hmn,hef,hme,hg', hq1,hq2,hR', hD', hF⟩:=hrel;replace hD' := Hd hD';replace hF:=Hd hF;replace hg' := Hd hg';by_cases h60:60<m
   · have h60i:-(m:Int) < -60:=by omega
     rcases e with _ | e
     · omega
     rw [shR,if_pos h60] at hR';have hr:=right_any' hD'.out hg'.out (k:=60) (by decide) (by decide) (by omega) (by omega);obtain ⟨g1,g2,g3⟩:=rs_dp hg'.out (k:=60) (by decide) (by decide);obtain ⟨m', hm'⟩:∃m', m' = m - 60:=⟨_,rfl⟩;have hmi:-(m:Int)+60=-(m' : Int):=by omega
     rw [<-hm'] at hR';replace hm' := Hd hm';replace hr:=Hd hr;replace hR' := Hd hR';replace g1:=Hd g1;go_wp2_with fail
     refine hr.out.mono ?_;rintro x w2 ⟨rfl,h2,h3⟩;have hF2:=hF.out.trans h3;replace hF2:=Hd hF2;replace h2:=Hd h2;clear h3;go_wp2_with fail
     go_round
     case rel=>exact ⟨m', e,rsD 60 d', rfl,by have:=hm'.out;omega,by have:=hm'.out;omega,by omega,by have:=hm'.out;omega,g1.out,by omega,by omega,hR'.out,h2.out,hF2.out⟩
     case measure=>have:=hm'.out;simp [intOf];omega
   · have h60i:¬-(m:Int) < -60:=by omega
     have hRR:rsD m d' = R:=by
       rw [<-hR'];cases e with
       | zero=>rfl
       | succ e=>rw [shR,if_neg h60]
     have hr:=right_any' hD'.out hg'.out (k:=m) hm1 (by omega) (by omega) (by omega);rw [hRR] at hr;replace hr:=Hd hr;replace hR' := Hd hR';replace hRR:=Hd hRR;go_wp2_with fail
     refine hr.out.mono ?_;rintro x w2 ⟨rfl,h2,h3⟩;have hF2:=hF.out.trans h3;replace hF2:=Hd hF2;replace h2:=Hd h2;clear h3;go_wp2
     go_end0
     exact ⟨rfl,h2.out,hF2.out⟩
set_option maxRecDepth 100000 in
set_option maxHeartbeats 3200000 in
theorem roundUp_any {w:World} {b:Nat} {d:Dec} {ng:Bool} {nd:Int} (h:Dm w b d ng) (hg:d.Good) (h0:-1000000<=nd) (h1:nd<=1000000) :
   Calls Tryz.prog 184 #[.pointer (some ⟨b,0,none⟩),.int .i64 nd] w fun e w' => e=.returned (.bool (upQ d nd))/\w' = w:=by
 obtain ⟨g,hD,hrow⟩:=h
 have c0:=hD.nd
 have c3:=hD.cut
 have hn8:=hg.len
 have hgd:=hg.dig
 obtain ⟨len,hlen⟩:∃len,len=d.L.length:=⟨_,rfl⟩
 obtain ⟨tr,htr⟩:∃tr,tr=d.tr:=⟨_,rfl⟩
 rw [<-hlen] at c0 hn8
 rw [<-htr] at c3
 have hcell:∀i (hi:i<d.L.length),w.cell? ⟨b,i,none⟩=some (.int .u8 ((d.L[i]).toNat:Int)):=fun i hi=>by rw [<-row_at hrow hi];exact hD.dig i (by omega)
 replace hcell:=Hd hcell
 replace hgd:=Hd hgd
 clear hD hrow hg
 by_cases hneg:nd<0
 · have hU:upQ d nd=false:=by unfold upQ;rw [if_pos (.inl hneg)]
   rw [hU];replace hU:=Hd hU;replace hlen:=Hd hlen;replace htr:=Hd htr
   go_enter Tryz.func184,Tryz.ntmps184
   go_wp2;go_ret;exact ⟨rfl,rfl⟩
 obtain ⟨i,rfl⟩:∃i:Nat,nd=i:=⟨nd.toNat,by omega⟩
 have hneg' : decide ((i:Int)<0)=false:=decide_eq_false hneg
 by_cases hge:len<=i
 · have hU:upQ d i=false:=by unfold upQ;rw [if_pos (.inr (by rw [<-hlen];omega))]
   have hgei:(len:Int)<=(i:Int):=by omega
   rw [hU];replace hU:=Hd hU;replace hlen:=Hd hlen;replace htr:=Hd htr
   go_enter Tryz.func184,Tryz.ntmps184
   go_wp2;go_ret;exact ⟨rfl,rfl⟩
 have hiL:i<d.L.length:=by rw [<-hlen];omega
 have hgei:¬(len:Int)<=(i:Int):=by omega
 obtain ⟨c,hc⟩:∃c,c=d.L[i]:=⟨_,rfl⟩
 have hci:=hcell.out i hiL
 rw [<-hc] at hci
 have hU0:upQ d i=if c=53/\i+1=len then (if tr then true else decide (0<i) && decide (dv (d.L.getD (i - 1) 0) % 2=1)) else decide (53<=c.toNat):=by
   unfold upQ;rw [if_neg (by rw [<-hlen];omega),Int.toNat_natCast,getD_at hiL,<-hc,<-htr,<-hlen,show ((i:Int) - 1).toNat=i - 1 by omega];have e1:((i:Int)+1=(len:Int)) ↔ (i+1=len):=by omega
   have e2:((0:Int)<(i:Int)) ↔ (0<i):=by omega
   simp only [e1,e2]
 have hi8:(i:Int)<800:=by omega
 by_cases h53:c=53
 · have hcn:((c.toNat:Int) == 53)=true:=by rw [h53];rfl
   have hcv:(c.toNat:Int)=53:=by rw [h53];rfl
   by_cases hlast:i+1=len
   · have hlb:(((i:Int)+1) == (len:Int))=true:=by rw [beq_iff_eq];omega
     rw [if_pos ⟨h53,hlast⟩] at hU0;cases htc:tr with
     | true=>
       rw [htc] at hU0 c3;simp only [if_true] at hU0;rw [hU0];replace hU0:=Hd hU0;replace hlen:=Hd hlen;replace htr:=Hd htr;replace htc:=Hd htc;replace hc:=Hd hc;replace h53:=Hd h53;replace hlast:=Hd hlast
       go_enter Tryz.func184,Tryz.ntmps184
       go_wp2;go_ret;exact ⟨rfl,rfl⟩
     | false=>
       rw [htc] at hU0 c3;simp only [Bool.false_eq_true,if_false] at hU0;rw [hU0];by_cases hi0:i=0
       · have hpos:¬(0:Int)<(i:Int):=by omega
         rw [decide_eq_false (show ¬0<i by omega),Bool.false_and];replace hU0:=Hd hU0;replace hlen:=Hd hlen;replace htr:=Hd htr;replace htc:=Hd htc;replace hc:=Hd hc;replace h53:=Hd h53;replace hlast:=Hd hlast;replace hi0:=Hd hi0
         go_enter Tryz.func184,Tryz.ntmps184
         go_wp2;go_ret;exact ⟨rfl,rfl⟩
       · have hpos:(0:Int)<(i:Int):=by omega
         have hjL:i - 1<d.L.length:=by omega
         obtain ⟨j,hj⟩:∃j,j=i - 1:=⟨_,rfl⟩;rw [<-hj] at hjL;obtain ⟨c', hc'⟩:∃c', c' = d.L[j]:=⟨_,rfl⟩;have hcj:=hcell.out j hjL;rw [<-hc'] at hcj;have hd' : isD c' = true:=by rw [hc'];exact hgd.out _ (List.getElem_mem hjL)
         have hc9:48<=c'.toNat/\c'.toNat<=57:=by unfold isD at hd'; simpa using hd'
         rw [decide_eq_true (show 0<i by omega),Bool.true_and,<-hj,getD_at hjL,<-hc'];have hji:(i:Int) - 1=(j:Int):=by omega
         obtain ⟨v,hv⟩:∃v,v=dv c' := ⟨_,rfl⟩;have hv2:(c'.toNat:Int) - 48=(v:Int):=by rw [hv];unfold dv;omega
         have hv9:v<=9:=by rw [hv];exact Ew hd'
         obtain ⟨ρ,hρ⟩:∃ρ,ρ=v % 2:=⟨_,rfl⟩;have ht1:(v:Int).tmod 2=(ρ:Int):=by rw [Int.tmod_eq_emod_of_nonneg (by omega)];omega
         have ht2:(v:Int) % 2=(ρ:Int):=by omega
         have hρ1:ρ<=1:=by omega
         obtain ⟨B,hB⟩:∃B,B=decide (ρ=1):=⟨_,rfl⟩;have hb:((ρ:Int) != 0)=B:=by
           rw [hB];rcases Nat.lt_or_ge ρ 1 with h9 | h9
           · have:ρ=0:=by omega
             rw [this];rfl
           · have:ρ=1:=by omega
             rw [this];rfl
         rw [<-hv,<-hρ,<-hB];replace hU0:=Hd hU0;replace hlen:=Hd hlen;replace htr:=Hd htr;replace htc:=Hd htc;replace hc:=Hd hc;replace hc' := Hd hc';replace h53:=Hd h53;replace hlast:=Hd hlast;replace hj:=Hd hj;replace hv:=Hd hv;replace hρ:=Hd hρ;replace hB:=Hd hB;clear hi0 hd' hc9
         go_enter Tryz.func184,Tryz.ntmps184
         go_wp2;go_ret;exact ⟨rfl,rfl⟩
   · have hlb:(((i:Int)+1) == (len:Int))=false:=by rw [beq_eq_false_iff_ne];omega
     rw [if_neg (fun e=>hlast e.2)] at hU0;rw [hU0,h53];replace hU0:=Hd hU0;replace hlen:=Hd hlen;replace htr:=Hd htr;replace hc:=Hd hc;replace h53:=Hd h53;clear hlast
     go_enter Tryz.func184,Tryz.ntmps184
     go_wp2;go_ret;exact ⟨rfl,rfl⟩
 · have hcn:((c.toNat:Int) == 53)=false:=by
     rw [beq_eq_false_iff_ne];exact fun e=>h53 (UInt8.toNat_inj.1 (show c.toNat=53 by omega))
   rw [if_neg (fun e=>h53 e.1)] at hU0;rw [hU0];obtain ⟨B,hB⟩:∃B,B=decide (53<=c.toNat):=⟨_,rfl⟩;have hb:decide ((53:Int)<=(c.toNat:Int))=B:=by rw [hB];simp;omega
   rw [<-hB];replace hU0:=Hd hU0;replace hlen:=Hd hlen;replace htr:=Hd htr;replace hc:=Hd hc;replace hB:=Hd hB;clear h53
   go_enter Tryz.func184,Tryz.ntmps184
   go_wp2;go_ret;exact ⟨by rw [<-hb];simp,rfl⟩
set_option maxRecDepth 100000 in
set_option maxHeartbeats 3200000 in
theorem rounded_any {w:World} {b:Nat} {d:Dec} {ng:Bool} (h:Dm w b d ng) (hg:d.Good) (h0:-1000000<=d.dp) (h1:d.dp<=16) :
   Calls Tryz.prog 240 #[.pointer (some ⟨b,0,none⟩)] w fun e w' => e=.returned (.int .u64 (rndI d:Int))/\w' = w:=by
 have hup:=roundUp_any h hg h0 (by omega)
 obtain ⟨g,hD,hrow⟩:=h
 have c0:=hD.nd
 have cp:=hD.pt
 have hn8:=hg.len
 have hgd:=hg.dig
 obtain ⟨len,hlen⟩:∃len,len=d.L.length:=⟨_,rfl⟩
 obtain ⟨P,hP⟩:∃P,P=d.dp.toNat:=⟨_,rfl⟩
 obtain ⟨dp,hdp⟩:∃dp,dp=d.dp:=⟨_,rfl⟩
 obtain ⟨U,hU⟩:∃U,U=upQ d d.dp:=⟨_,rfl⟩
 obtain ⟨M,hM⟩:∃M,M=min P len:=⟨_,rfl⟩
 have hP16:P<=16:=by omega
 have hdP:(dp<0/\P=0)\/dp=(P:Int):=by omega
 have hrnd:rndI d=valD (d.L.take M) * 10 ^ (P - M)+U.toNat:=by
   unfold rndI;rw [<-hP,<-hU,<-hlen];congr 2
   · rw [hM,hlen]
     rcases Nat.le_total P d.L.length with h9 | h9
     · rw [Nat.min_eq_left h9]
     · rw [Nat.min_eq_right h9,List.take_of_length_le h9,List.take_of_length_le (Nat.le_refl _)]
   · rw [hM];congr 1;omega
 have hcell:∀i (hi:i<d.L.length),w.cell? ⟨b,i,none⟩=some (.int .u8 ((d.L[i]).toNat:Int)):=fun i hi=>by rw [<-row_at hrow hi];exact hD.dig i (by omega)
 have hval:∀i,i<=M->valD (d.L.take i)<10 ^ i:=fun i hi=>by
   have:=C7 (l:=d.L.take i) (fun c hc=>hgd c (List.mem_of_mem_take hc));rwa [List.length_take,Nat.min_eq_left (by omega)] at this
 have hten:∀i,i<=16->10 ^ i<=10000000000000000:=fun i hi=>by
   have:10 ^ i<=10 ^ 16:=Nat.pow_le_pow_right (by decide) hi;exact this
 rw [hrnd]
 rw [<-hU,<-hdp] at hup
 rw [<-hlen] at c0
 rw [<-hdp] at cp
 have h20:¬(20:Int)<dp:=by omega
 replace hcell:=Hd hcell
 replace hval:=Hd hval
 replace hten:=Hd hten
 replace hgd:=Hd hgd
 replace hup:=Hd hup
 replace hrnd:=Hd hrnd
 replace hU:=Hd hU
 replace hdp' := Hd hdp
 replace hP:=Hd hP
 replace hM:=Hd hM
 replace hlen:=Hd hlen
 have hdp9:-1000000<=dp/\dp<=16:=by omega
 clear hD hrow hg hdp h0 h1
 go_enter Tryz.func240,Tryz.ntmps240
 go_wp2_with fail
 go_loop [3,4] (fun s3 s4=>∃i:Nat,i<=M/\s3=.int .i64 (i:Int)/\s4=.int .u64 (valD (d.L.take i):Int)) (fun s3 _=>M - (intOf s3).toNat)
 case atStart=>exact ⟨0,Nat.zero_le _,rfl,by simp [valD]⟩
 case round=>
   obtain ⟨i,hi,rfl,rfl⟩:=hrel;have hMM:=hM.out;obtain ⟨v,hv⟩:∃v,v=valD (d.L.take i):=⟨_,rfl⟩;have hv9:v<=10000000000000000:=by rw [hv];exact Nat.le_of_lt (Nat.lt_of_lt_of_le (hval.out i hi) (hten.out i (by omega)))
   rw [<-hv];by_cases hlt:i<M
   · have hiL:i<d.L.length:=by rw [<-hlen.out];omega
     have hdpi:(i:Int)<dp:=by omega
     have hnii:(i:Int)<(len:Int):=by omega
     obtain ⟨c,hc⟩:∃c,c=d.L[i]:=⟨_,rfl⟩;have hci:=hcell.out i hiL;rw [<-hc] at hci;have hcd:isD c=true:=by rw [hc];exact hgd.out _ (List.getElem_mem hiL)
     have hc9:48<=c.toNat/\c.toNat<=57:=by unfold isD at hcd;simpa using hcd
     have hi8:(i:Int)<800:=by omega
     obtain ⟨dd,hdd⟩:∃dd,dd=dv c:=⟨_,rfl⟩;have hd2:(c.toNat:Int) - 48=(dd:Int):=by rw [hdd];unfold dv;omega
     have hdd9:dd<=9:=by rw [hdd];exact Ew hcd
     have hnx:((v * 10+dd:Nat):Int)=((valD (d.L.take (i+1)):Nat):Int):=by rw [take_val hiL,<-hv,<-hc,<-hdd]
     have hnx2:(v:Int) * 10+(dd:Int)=((v * 10+dd:Nat):Int):=by omega
     obtain ⟨v', hv'⟩:∃v', v' = v * 10+dd:=⟨_,rfl⟩;rw [<-hv'] at hnx hnx2;replace hnx:=Hd hnx;replace hv:=Hd hv;replace hv' := Hd hv';replace hc:=Hd hc;replace hdd:=Hd hdd;replace hMM:=Hd hMM;replace hdP:=Hd hdP;clear hcd hc9;go_wp2_with fail
     go_round
     case rel=>exact ⟨i+1,by omega,by go_num,by rw [hnx.out]⟩
     case measure=>simp [intOf];omega
   · have hiM:i=M:=by omega
     have hend:¬((i:Int)<dp/\(i:Int)<(len:Int)):=by omega
     subst hiM;have hdge:(P:Int)<=16:=by omega
     have hP0:(dp<0/\P=0/\i=0)\/dp=(P:Int):=by omega
     replace hMM:=Hd hMM;replace hdP:=Hd hdP;replace hP0' := Hd hP0;have hgoal:∀(j:Nat),i<=j->j<=P->v * 10 ^ (j - i)<=100000000000000000:=fun j h1 h2=>by
       have e1:v * 10 ^ (j - i)<=10 ^ i * 10 ^ (j - i):=Nat.mul_le_mul_right _ (by rw [hv];exact Nat.le_of_lt (hval.out i (Nat.le_refl _)));rw [<-Nat.pow_add,show i+(j - i)=j by omega] at e1;have:=hten.out j (by omega);omega
     replace hgoal:=Hd hgoal;replace hv:=Hd hv;have key:∀W:World,True:=fun _=>trivial;by_cases hA:(i:Int)<dp
     · have hB:¬(i:Int)<(len:Int):=by omega
       replace hend:=Hd hend;replace hP0:=Hd hP0;go_wp2_with fail
       go_loop [3,4] (fun s3 s4=>∃j:Nat,i<=j/\j<=P/\s3=.int .i64 (j:Int)/\s4=.int .u64 ((v * 10 ^ (j - i):Nat):Int)) (fun s3 _=>P - (intOf s3).toNat)
       case atStart=>exact ⟨i,Nat.le_refl _,by have:=hMM.out;omega,rfl,by simp⟩
       case round=>
         obtain ⟨j,hij,hjP,rfl,rfl⟩:=hrel;obtain ⟨x,hx⟩:∃x,x=v * 10 ^ (j - i):=⟨_,rfl⟩;have hx9:x<=100000000000000000:=by rw [hx];exact hgoal.out j hij hjP
         have hP00:=hP0.out;rw [<-hx];by_cases hjd:(j:Int)<dp
         · have hjn:((x * 10:Nat):Int)=((v * 10 ^ (j+1 - i):Nat):Int):=by
             rw [hx,show j+1 - i=(j - i)+1 by omega,Nat.pow_succ,Nat.mul_assoc]
           have hjn2:(x:Int) * 10=((x * 10:Nat):Int):=by omega
           have hjP2:j+1<=P:=by omega
           obtain ⟨y,hy⟩:∃y,y=x * 10:=⟨_,rfl⟩;rw [<-hy] at hjn hjn2;replace hjn:=Hd hjn;replace hy:=Hd hy;replace hx:=Hd hx;replace hP00:=Hd hP00;go_wp2_with fail
           go_round
           case rel=>exact ⟨j+1,by omega,hjP2,by go_num,by rw [hjn.out]⟩
           case measure=>simp [intOf];omega
         · have hjP2:j=P:=by omega
           have hx2:x=valD (d.L.take i) * 10 ^ (P - i):=by rw [hx,hjP2,hv.out]
           replace hx:=Hd hx;replace hx2:=Hd hx2;replace hjP2:=Hd hjP2;replace hP00:=Hd hP00;go_wp2_with fail
           refine hup.out.mono ?_;rintro e w' ⟨rfl,hww⟩;obtain rfl:=hww.symm;clear hww;cases U
           · go_wp2
             go_ret;exact ⟨by rw [<-hx2.out];simp,rfl⟩
           · go_wp2
             go_ret;exact ⟨by rw [<-hx2.out];simp,rfl⟩
     · replace hend:=Hd hend
       replace hP0:=Hd hP0;go_wp2_with fail
       go_loop [3,4] (fun s3 s4=>∃j:Nat,i<=j/\j<=P/\s3=.int .i64 (j:Int)/\s4=.int .u64 ((v * 10 ^ (j - i):Nat):Int)) (fun s3 _=>P - (intOf s3).toNat)
       case atStart=>exact ⟨i,Nat.le_refl _,by have:=hMM.out;omega,rfl,by simp⟩
       case round=>
         obtain ⟨j,hij,hjP,rfl,rfl⟩:=hrel;obtain ⟨x,hx⟩:∃x,x=v * 10 ^ (j - i):=⟨_,rfl⟩;have hx9:x<=100000000000000000:=by rw [hx];exact hgoal.out j hij hjP
         have hP00:=hP0.out;rw [<-hx];by_cases hjd:(j:Int)<dp
         · exfalso;omega
         · have hjP2:j=P:=by omega
           have hx2:x=valD (d.L.take i) * 10 ^ (P - i):=by rw [hx,hjP2,hv.out]
           replace hx:=Hd hx;replace hx2:=Hd hx2;replace hjP2:=Hd hjP2;replace hP00:=Hd hP00;go_wp2_with fail
           refine hup.out.mono ?_;rintro e w' ⟨rfl,hww⟩;obtain rfl:=hww.symm;clear hww;cases U
           · go_wp2
             go_ret;exact ⟨by rw [<-hx2.out];simp,rfl⟩
           · go_wp2
             go_ret;exact ⟨by rw [<-hx2.out];simp,rfl⟩
end Go.Proofs.YtagkgfniihiinaaGreatDoor
