/- internal/strconv.decimal in memory; what its loops keep (no program in sight). -/
import Derived.Test.YteoalcmhdoopnaaGreatDoorJ49
import Derived.Test.YteoalcmhdoopnaaGreatDoorBase
import Derived.Test.YteoalcmhdoopnaaGreatDoorQuiet
import Derived.Test.YteoalcmhdoopnaaGreatDoorProg
import Derived.Lib.IndexBytes
import Derived.Deep.DeepCutAuto
import Derived.Deep.LoopGhost
import Derived.Deep.CutBlock
import Derived.WalkMore
import Derived.BigQuiet
namespace Go.Proofs.YteoalcmhdoopnaaGreatDoor
open Go.RowKit
def row (f:Nat->UInt8) (n:Nat):List UInt8:=(List.range n).map f
theorem Dj (f:Nat->UInt8) (n:Nat):(row f n).length=n:=by unfold row;simp
theorem row_succ (f:Nat->UInt8) (n:Nat):row f (n+1)=row f n++[f n]:=by unfold row;rw [List.range_succ,List.map_append];rfl
theorem row_get (f:Nat->UInt8) {n i:Nat} (h:i<n):(row f n)[i]'(by rw [Dj];exact h)=f i:=by unfold row;simp
theorem row_ext {f:Nat->UInt8} {n:Nat} {L:List UInt8} (hn:L.length=n) (h:∀i (hi:i<L.length),f i=L[i]):row f n=L:=by
 refine List.ext_getElem (by rw [Dj,hn]) fun i h1 h2=>?_;rw [Dj] at h1;rw [row_get f h1];exact h i h2
theorem row_at {f:Nat->UInt8} {L:List UInt8} (h:row f L.length=L) {i:Nat} (hi:i<L.length):f i=L[i]:=by
 have h1:=row_get f hi;have h2:(row f L.length)[i]'(by rw [Dj];exact hi)=L[i]:=by congr 1
 rw [<-h1,h2]
theorem row_congr {f g:Nat->UInt8} {n:Nat} (h:∀i,i<n->f i=g i):row f n=row g n:=by
 unfold row;exact List.map_congr_left fun i hi=>h i (List.mem_range.1 hi)
def stF (f:Nat->UInt8) (i:Nat) (c:UInt8):Nat->UInt8:=fun j=>if j=i then c else f j
theorem stF_eq (f:Nat->UInt8) (i:Nat) (c:UInt8):stF f i c i=c:=if_pos rfl
theorem stF_ne (f:Nat->UInt8) {i j:Nat} (c:UInt8) (h:j≠i):stF f i c j=f j:=if_neg h
theorem row_put (f:Nat->UInt8) (n:Nat) (c:UInt8):row (stF f n c) (n+1)=row f n++[c]:=by
 rw [row_succ,stF_eq,row_congr (g:=f) (fun i hi=>stF_ne f c (by omega))]
theorem strip_row (f:Nat->UInt8) (n:Nat):Ai (row f (n+1))=if f n=48 then Ai (row f n) else row f (n+1):=by
 rw [row_succ];unfold Ai;rw [List.reverse_append,List.reverse_cons,List.reverse_nil,List.nil_append,List.singleton_append,List.dropWhile_cons];by_cases h:f n=48
 · rw [if_pos h,if_pos (by simpa using h)]
 · rw [if_neg h,if_neg (by simpa using h),List.reverse_cons,List.reverse_reverse]
theorem row_strip (f:Nat->UInt8) (n:Nat):row f (Ai (row f n)).length=Ai (row f n):=by
 have h:=stripZ_take (row f n);have hl:=Dz (row f n);rw [Dj] at hl;generalize hm:(Ai (row f n)).length=m at *;rw [h];unfold row;rw [<-List.map_take,List.take_range,Nat.min_eq_left hl]
structure DM (w:World) (b:Nat) (f:Nat->UInt8) (n:Nat) (dp:Int) (ng tr:Bool):Prop where
 blk:Blk w b
 dig:∀i,i<800->w.cell? ⟨b,i,none⟩=some (.int .u8 ((f i).toNat:Int))
 nd:w.cell? ⟨b,800,none⟩=some (.int .i64 (n:Int))
 pt:w.cell? ⟨b,801,none⟩=some (.int .i64 dp)
 sg:w.cell? ⟨b,802,none⟩=some (.bool ng)
 cut:w.cell? ⟨b,803,none⟩=some (.bool tr)
theorem DM.put {w:World} {b:Nat} {f:Nat->UInt8} {n:Nat} {dp:Int} {ng tr:Bool} (h:DM w b f n dp ng tr) {i:Nat} (hi:i<800) (c:UInt8):DM (w.setCell ⟨b,i,none⟩ (.int .u8 (c.toNat:Int))) b (stF f i c) n dp ng tr:=by
 refine ⟨h.blk.setCell _ _,fun j hj=>?_,?_,?_,?_,?_⟩
 · by_cases e:j=i
   · subst e;rw [stF_eq];exact Ao (h.dig j hj)
   · rw [stF_ne f c e,Ab (fun q=>e (by cases q;rfl))];exact h.dig j hj
 · rw [Ab (fun q=>by cases q;omega)];exact h.nd
 · rw [Ab (fun q=>by cases q;omega)];exact h.pt
 · rw [Ab (fun q=>by cases q;omega)];exact h.sg
 · rw [Ab (fun q=>by cases q;omega)];exact h.cut
theorem DM.setN {w:World} {b:Nat} {f:Nat->UInt8} {n:Nat} {dp:Int} {ng tr:Bool} (h:DM w b f n dp ng tr) (m:Nat):DM (w.setCell ⟨b,800,none⟩ (.int .i64 (m:Int))) b f m dp ng tr:=by
 refine ⟨h.blk.setCell _ _,fun j hj=>?_,Ao h.nd,?_,?_,?_⟩
 · rw [Ab (fun q=>by cases q;omega)];exact h.dig j hj
 · rw [Ab (fun q=>by cases q)];exact h.pt
 · rw [Ab (fun q=>by cases q)];exact h.sg
 · rw [Ab (fun q=>by cases q)];exact h.cut
theorem DM.setP {w:World} {b:Nat} {f:Nat->UInt8} {n:Nat} {dp:Int} {ng tr:Bool} (h:DM w b f n dp ng tr) (q:Int):DM (w.setCell ⟨b,801,none⟩ (.int .i64 q)) b f n q ng tr:=by
 refine ⟨h.blk.setCell _ _,fun j hj=>?_,?_,Ao h.pt,?_,?_⟩
 · rw [Ab (fun q=>by cases q;omega)];exact h.dig j hj
 · rw [Ab (fun q=>by cases q)];exact h.nd
 · rw [Ab (fun q=>by cases q)];exact h.sg
 · rw [Ab (fun q=>by cases q)];exact h.cut
theorem DM.setS {w:World} {b:Nat} {f:Nat->UInt8} {n:Nat} {dp:Int} {ng tr:Bool} (h:DM w b f n dp ng tr) (q:Bool):DM (w.setCell ⟨b,802,none⟩ (.bool q)) b f n dp q tr:=by
 refine ⟨h.blk.setCell _ _,fun j hj=>?_,?_,?_,Ao h.sg,?_⟩
 · rw [Ab (fun q=>by cases q;omega)];exact h.dig j hj
 · rw [Ab (fun q=>by cases q)];exact h.nd
 · rw [Ab (fun q=>by cases q)];exact h.pt
 · rw [Ab (fun q=>by cases q)];exact h.cut
theorem DM.setT {w:World} {b:Nat} {f:Nat->UInt8} {n:Nat} {dp:Int} {ng tr:Bool} (h:DM w b f n dp ng tr) (q:Bool):DM (w.setCell ⟨b,803,none⟩ (.bool q)) b f n dp ng q:=by
 refine ⟨h.blk.setCell _ _,fun j hj=>?_,?_,?_,?_,Ao h.cut⟩
 · rw [Ab (fun q=>by cases q;omega)];exact h.dig j hj
 · rw [Ab (fun q=>by cases q)];exact h.nd
 · rw [Ab (fun q=>by cases q)];exact h.pt
 · rw [Ab (fun q=>by cases q)];exact h.sg
theorem DM.drewN {w:World} {b:Nat} {f:Nat->UInt8} {n:Nat} {dp:Int} {ng tr:Bool} (h:DM w b f n dp ng tr) (k:Nat):DM (w.drewN k) b f n dp ng tr:=by
 have hc:∀a,(w.drewN k).cell? a=w.cell? a:=fun a=>World.cell?_drewN ..;refine ⟨?_,fun i hi=>by rw [hc];exact h.dig i hi,by rw [hc];exact h.nd,by rw [hc];exact h.pt,by rw [hc];exact h.sg,by rw [hc];exact h.cut⟩;induction k with
 | zero=>exact h.blk
 | succ k ih=>exact Blk.drew (ih fun a=>World.cell?_drewN ..)
theorem Fr.drewN {S:Nat->Prop} {a w:World} (h:Fr S a w) (k:Nat):Fr S a (w.drewN k):=by
 induction k with
 | zero=>exact h
 | succ k ih=>exact ih.drew
theorem DM.lt {w:World} {b:Nat} {f:Nat->UInt8} {n:Nat} {dp:Int} {ng tr:Bool} (h:DM w b f n dp ng tr):b<w.heap.size:=h.blk.lt
def Dm (w:World) (b:Nat) (d:Dec) (ng:Bool):Prop:=∃f,DM w b f d.L.length d.dp ng d.tr/\row f d.L.length=d.L
theorem Dm.of_trim {w:World} {b:Nat} {f:Nat->UInt8} {n:Nat} {dp:Int} {ng tr:Bool} (h:DM w b f (Ai (row f n)).length (if Ai (row f n)=[] then 0 else dp) ng tr):Dm w b (D9 (row f n) dp tr) ng:=⟨f,h,row_strip f n⟩
theorem val_at:∀(j:Nat) (L:List UInt8),(∀c∈L,isD c=true)->(h:j<L.length)->dv (L[L.length - 1 - j]'(by omega))=valD L / 10 ^ j % 10
 | j,L,hd,h=>by
   obtain ⟨m,hm⟩:∃m,L.length - 1 - j=m:=⟨_,rfl⟩;have hml:m<L.length:=by omega
   have e:L=L.take m++(L[m] :: L.drop (m+1)):=by rw [<-List.drop_eq_getElem_cons hml,List.take_append_drop]
   have hlen:(L.drop (m+1)).length=j:=by rw [List.length_drop];omega
   have hlt:=Bw (l:=L.drop (m+1)) (fun c hc=>hd c (List.mem_of_mem_drop hc));have hc:=D8 (hd L[m] (List.getElem_mem hml));have hv:valD L=(valD (L.take m) * 10+dv L[m]) * 10 ^ j+valD (L.drop (m+1)):=by
     conv=>lhs;rw [e]
     rw [Bc,Ar,List.length_cons,hlen,Nat.pow_succ,Nat.add_mul];have:valD (L.take m) * (10 ^ j * 10)=valD (L.take m) * 10 * 10 ^ j:=by simp only [Nat.mul_assoc,Nat.mul_left_comm,Nat.mul_comm]
     omega
   rw [hlen] at hlt;have h1:valD L / 10 ^ j=valD (L.take m) * 10+dv L[m]:=by
     rw [hv,Nat.mul_comm,Nat.mul_add_div (Nat.pow_pos (by decide)),Nat.div_eq_of_lt hlt,Nat.add_zero]
   rw [h1];simp only [hm];omega
theorem isD_of_dv {c:UInt8} {n:Nat} (hc:isD c=true) (h:dv c=n):c=dg8 n/\c.toNat=48+n:=by
 have h9:=D8 hc;unfold isD at hc;simp only [Bool.and_eq_true,decide_eq_true_eq] at hc;unfold dv at h;have h2:c.toNat=48+n:=by omega
 refine ⟨UInt8.toNat_inj.1 ?_,h2⟩;rw [h2];unfold dg8;rw [B5 (by omega)]
theorem ls_at (k:Nat) (d:Dec) {j:Nat} (h:j<(lsO k d).length):∃r,(lsO k d)[(lsO k d).length - 1 - j]'(by omega)=dg8 r/\r=valD d.L * 2 ^ k / 10 ^ j % 10/\r<10:=by
 have h1:=val_at j (lsO k d) (Bm _) h;have h2:valD (lsO k d)=valD d.L * 2 ^ k:=Bv _;rw [h2] at h1;exact ⟨_,(isD_of_dv (Bm _ _ (List.getElem_mem _)) h1).1,rfl,Nat.mod_lt _ (by decide)⟩
theorem ls_step {L:List UInt8} {j k:Nat} (hd:∀c∈L,isD c=true) (h:j<L.length) :
   valD (L.drop (L.length - j)) * 2 ^ k / 10 ^ j+dv (L[L.length - 1 - j]'(by omega)) * 2 ^ k=valD (L.drop (L.length - (j+1))) * 2 ^ k / 10 ^ j /\
   valD (L.drop (L.length - (j+1))) * 2 ^ k / 10 ^ j / 10=valD (L.drop (L.length - (j+1))) * 2 ^ k / 10 ^ (j+1) /\
   valD (L.drop (L.length - (j+1))) * 2 ^ k / 10 ^ j % 10=valD L * 2 ^ k / 10 ^ j % 10 /\
   valD (L.drop (L.length - j)) * 2 ^ k / 10 ^ j<=2 ^ k:=by
 obtain ⟨m,hm⟩:∃m,L.length - (j+1)=m:=⟨_,rfl⟩
 have hml:m<L.length:=by omega
 have e1:L.length - j=m+1:=by omega
 have e2:L.length - 1 - j=m:=by omega
 rw [hm,e1]
 simp only [e2]
 have hlen:(L.drop (m+1)).length=j:=by rw [List.length_drop];omega
 have hlt:=Bw (l:=L.drop (m+1)) (fun c hc=>hd c (List.mem_of_mem_drop hc))
 rw [hlen] at hlt
 have hp:0<10 ^ j:=Nat.pow_pos (by decide)
 have hv:valD (L.drop m)=dv L[m] * 10 ^ j+valD (L.drop (m+1)):=by rw [List.drop_eq_getElem_cons hml,Ar,hlen]
 have hT:valD L=valD (L.take m) * 10 ^ (j+1)+valD (L.drop m):=by
   conv=>lhs;rw [<-List.take_append_drop m L]
   rw [Bc,List.length_drop,show L.length - m=j+1 by omega]
 refine ⟨?_,?_,?_,?_⟩
 · rw [hv,Nat.add_mul,Nat.mul_right_comm,Nat.mul_comm (dv L[m] * 2 ^ k),Nat.mul_add_div hp,Nat.add_comm]
 · rw [Nat.div_div_eq_div_mul,<-Nat.pow_succ]
 · rw [hT,Nat.add_mul]
   have:valD (L.take m) * 10 ^ (j+1) * 2 ^ k=10 ^ j * (valD (L.take m) * 2 ^ k * 10):=by rw [Nat.pow_succ];simp only [Nat.mul_assoc,Nat.mul_left_comm,Nat.mul_comm]
   rw [this,Nat.mul_add_div hp];omega
 · refine Nat.le_trans (Nat.div_le_div_right (c:=10 ^ j) (Nat.mul_le_mul_right (2 ^ k) (Nat.le_of_lt hlt))) ?_
   rw [Nat.mul_comm,Nat.mul_div_cancel _ hp];exact Nat.le_refl _
theorem ls_more {T j:Nat} (h:0<T / 10 ^ j):j<Lib.nDigits T:=by
 have hp:0<10 ^ j:=Nat.pow_pos (by decide);have h1:10 ^ j<=T:=by
   rcases Nat.lt_or_ge T (10 ^ j) with h9 | h9
   · rw [Nat.div_eq_of_lt h9] at h;omega
   · exact h9
 exact Dv (by omega) h1
theorem ls_done {T j:Nat} (h0:0<T) (h:T / 10 ^ j=0):Lib.nDigits T<=j:=by
 have hp:0<10 ^ j:=Nat.pow_pos (by decide);refine Cg h0 ?_;rcases Nat.lt_or_ge T (10 ^ j) with h9 | h9
 · exact h9
 · have:=Nat.div_pos h9 hp;omega
theorem ls_div {T j:Nat}:T / 10 ^ j / 10=T / 10 ^ (j+1):=by rw [Nat.div_div_eq_div_mul,<-Nat.pow_succ]
structure Behind (O:List UInt8) (f g:Nat->UInt8) (t0 t:Bool) (p:Nat):Prop where
 done:∀i (h:i<O.length),p<=i->i<800->g i=O[i]
 rest:∀i,i<p->g i=f i
 cut:t=(t0 || (O.drop (max p 800)).any (· != 48))
theorem Behind.start {O:List UInt8} {f:Nat->UInt8} {t0:Bool}:Behind O f f t0 t0 O.length:=
 ⟨fun i h h1=>by omega,fun _ _=>rfl,by rw [List.drop_eq_nil_of_le (by omega)];simp⟩
theorem Behind.put {O:List UInt8} {f g:Nat->UInt8} {t0 t:Bool} {p:Nat} (h:Behind O f g t0 t (p+1)) (hp:p<O.length) (h8:p<800):Behind O f (stF g p O[p]) t0 t p:=by
 refine ⟨fun i hi h1 h2=>?_,fun i hi=>?_,?_⟩
 · by_cases e:i=p
   · subst e;rw [stF_eq]
   · rw [stF_ne g _ e];exact h.done i hi (by omega) h2
 · rw [stF_ne g _ (by omega)];exact h.rest i (by omega)
 · rw [h.cut,show max (p+1) 800=800 by omega,show max p 800=800 by omega]
theorem Behind.skip {O:List UInt8} {f g:Nat->UInt8} {t0 t:Bool} {p:Nat} (h:Behind O f g t0 t (p+1)) (hp:p<O.length) (h8:800<=p):Behind O f g t0 (t || (O[p] != 48)) p:=by
 refine ⟨fun i hi h1 h2=>by omega,fun i hi=>h.rest i (by omega),?_⟩;rw [h.cut,show max (p+1) 800=p+1 by omega,show max p 800=p by omega,List.drop_eq_getElem_cons hp,List.any_cons];cases t0<;>cases (O[p] != 48)<;>cases (List.drop (p+1) O).any (· != 48)<;>rfl
theorem Behind.whole {O:List UInt8} {f g:Nat->UInt8} {t0 t:Bool} (h:Behind O f g t0 t 0):row g (min 800 O.length)=O.take 800/\t=(t0 || (O.drop 800).any (· != 48)):=by
 refine ⟨row_ext (by rw [List.length_take]) fun i hi=>?_,h.cut⟩;rw [List.length_take] at hi;rw [List.getElem_take];exact h.done i (by omega) (by omega) (by omega)
theorem pick_more {k n:Nat} {c:UInt8} {l:List UInt8} (h:n / 2 ^ k=0):At k n (c :: l)=((At k (n * 10+dv c) l).1,(At k (n * 10+dv c) l).2.1+1,(At k (n * 10+dv c) l).2.2):=by
 rw [At,if_pos h]
theorem pick_stop {k n:Nat} {l:List UInt8} (h:n / 2 ^ k≠0):At k n l=(n,0,l):=by
 cases l with
 | nil=>rfl
 | cons c l=>rw [At,if_neg h]
theorem fill_more {k n f:Nat} (h:n / 2 ^ k=0):B1 k (f+1) n=((B1 k f (n * 10)).1,(B1 k f (n * 10)).2+1):=by rw [B1,if_pos h]
theorem fill_stop {k n f:Nat} (h:n / 2 ^ k≠0):B1 k f n=(n,0):=by
 cases f with
 | zero=>rfl
 | succ f=>rw [B1,if_neg h]
theorem Ey {k n f:Nat} (h:n≠0):B4 k (f+1) n=dg8 (n / 2 ^ k) :: B4 k f (n % 2 ^ k * 10):=by rw [B4,if_neg h]
theorem Dl {k f:Nat}:B4 k f 0=[]:=by
 cases f with
 | zero=>rfl
 | succ f=>rw [B4,if_pos rfl]
structure TailI (k g n:Nat):Prop where
 lt:n<10 * 2 ^ k
 dvd:2 ^ (k+1 - g) ∣ n
 le:g<=k+2
 zero:g=0->n=0
theorem TailI.start {k n:Nat} (h:n<10 * 2 ^ k):TailI k (k+2) n:=⟨h,by rw [show k+1 - (k+2)=0 by omega];exact Nat.one_dvd _,Nat.le_refl _,fun h=>by omega⟩
theorem TailI.next {k g n:Nat} (h:TailI k (g+1) n):TailI k g (n % 2 ^ k * 10):=by
 have h2:=Nat.two_pow_pos k;have hm:=Nat.mod_lt n h2;have hle:=h.le;refine ⟨by omega,?_,by omega,fun hg=>?_⟩
 · by_cases hk:g<=k
   · have h1:=h.dvd
     rw [show k+1 - (g+1)=k - g by omega] at h1;have h3:2 ^ (k - g) ∣ 2 ^ k:=Nat.pow_dvd_pow 2 (by omega);have h4:2 ^ (k - g) ∣ n % 2 ^ k:=(Nat.dvd_mod_iff h3).2 h1;rw [show k+1 - g=(k - g)+1 by omega,Nat.pow_succ];exact Nat.mul_dvd_mul h4 ⟨5,rfl⟩
   · rw [show k+1 - g=0 by omega];exact Nat.one_dvd _
 · subst hg
   have h1:=h.dvd;rw [show k+1 - (0+1)=k by omega] at h1;rw [Nat.mod_eq_zero_of_dvd h1]
structure Front (P:List UInt8) (g:Nat->UInt8) (t0 t:Bool) (p:Nat):Prop where
 len:p=min 800 P.length
 row:row g p=P.take 800
 cut:t=(t0 || (P.drop 800).any (· != 48))
theorem Front.start {g:Nat->UInt8} {t0:Bool}:Front [] g t0 t0 0:=⟨by simp,rfl,by simp⟩
theorem Front.put {P:List UInt8} {g:Nat->UInt8} {t0 t:Bool} {p:Nat} (h:Front P g t0 t p) (h8:p<800) (c:UInt8):Front (P++[c]) (stF g p c) t0 t (p+1):=by
 have hl:=h.len;have hpl:P.length=p:=by omega
 refine ⟨by rw [List.length_append,List.length_singleton];omega,?_,?_⟩
 · have h1:=h.row
   rw [row_put,h1,List.take_of_length_le (by omega),List.take_of_length_le (by rw [List.length_append,List.length_singleton];omega)]
 · rw [h.cut,List.drop_eq_nil_of_le (by omega),List.drop_eq_nil_of_le (by rw [List.length_append,List.length_singleton];omega)]
theorem Front.skip {P:List UInt8} {g:Nat->UInt8} {t0 t:Bool} {p:Nat} (h:Front P g t0 t p) (h8:800<=p) (c:UInt8):Front (P++[c]) g t0 (t || (c != 48)) p:=by
 have hl:=h.len;refine ⟨by rw [List.length_append];omega,?_,?_⟩
 · rw [h.row,List.take_append_of_le_length (by omega)]
 · rw [h.cut,List.drop_append_of_le_length (by omega),List.any_append,List.any_cons,List.any_nil,Bool.or_false,Bool.or_assoc]
theorem dg8_ne {n:Nat} (h:n<10):(dg8 n != 48)=decide (0<n):=by
 have h1:=dg8_dv h;rcases Nat.eq_zero_or_pos n with h0 | h0
 · subst h0;rfl
 · rw [decide_eq_true h0,bne_iff_ne]
   intro e;rw [e] at h1;have:dv 48=0:=rfl;omega
theorem take_val {L:List UInt8} {i:Nat} (h:i<L.length):valD (L.take (i+1))=valD (L.take i) * 10+dv L[i]:=by rw [List.take_succ_eq_append_getElem h,Gp]
theorem getD_at {L:List UInt8} {i:Nat} (h:i<L.length):L.getD i 0=L[i]:=by rw [List.getD_eq_getElem?_getD,List.getElem?_eq_getElem h];rfl
theorem cast48 {c:UInt8}:((c.toNat:Int) == 48)=decide (c=48):=by
 by_cases h:c=48
 · rw [h];rfl
 · have h2:¬c.toNat=48:=fun e=>h (UInt8.toNat_inj.1 e)
   rw [decide_eq_false h];exact beq_eq_false_iff_ne.2 (fun e=>h2 (by omega))
set_option maxRecDepth 100000 in
set_option maxHeartbeats 3200000 in
theorem Gs {w:World} {b n:Nat} {f:Nat->UInt8} {dp:Int} {ng tr:Bool} (h:DM w b f n dp ng tr) (hn:n<=800) :
   Calls Tryz.prog 142 #[.pointer (some ⟨b,0,none⟩)] w fun e w' => e=.returned (.tuple #[])/\Dm w' b (D9 (row f n) dp tr) ng/\Fr (fun k=>k=b) w w' := by
 obtain ⟨L,hL⟩:∃L,L=Ai (row f n):=⟨_,rfl⟩
 have hgoal:∀w', DM w' b f L.length (if L=[] then 0 else dp) ng tr->Dm w' b (D9 (row f n) dp tr) ng:=fun w' hw=>by
   rw [hL] at hw;exact Dm.of_trim hw
 replace hgoal:=Hd hgoal
 have h0:=Hd h
 clear h
 go_enter Tryz.func142,Tryz.ntmps142
 go_wp2_with fail
 go_loopw [19] (fun _ wr=>∃m:Nat,m<=n/\Ai (row f m)=L/\DM wr b f m dp ng tr/\Fr (fun k=>k=b) w wr) (fun _ wr=>match wr.cell? ⟨b,800,none⟩ with | some (.int _ v)=>v.toNat | _=>0)
 case atStart=>exact ⟨n,Nat.le_refl _,hL.symm,h0.out,Fr.refl _ _⟩
 case round=>
   obtain ⟨m,hm,hs,hD,hF⟩:=hrel;have c0:=hD.nd;have hdig:=hD.dig;have hstep:∀nq,∃W,W=wr.drewN nq/\DM W b f m dp ng tr/\Fr (fun k=>k=b) w W:=fun nq=>⟨_,rfl,hD.drewN nq,hF.drewN nq⟩;replace hdig:=Hd hdig;replace hstep:=Hd hstep;replace hL:=Hd hL;clear h0 hD hF;rcases m with _ | i
   · have hnil:L=[]:=by rw [<-hs];rfl
     replace hs:=Hd hs;replace hnil:=Hd hnil;go_upto_region 0 with fail
     go_quiet (fail)
     obtain ⟨W,hW,hD,hF⟩:=hstep.out nq;rw [<-hW];have c0:=hD.nd;have c1:=hD.pt;have z1:=hD.blk.frz 801 none;have hDp:=hD.setP 0;replace hW:=Hd hW;replace hDp:=Hd hDp;replace hF:=Hd hF;clear hD;go_wp2
     go_end0
     refine ⟨rfl,hgoal.out _ ?_,hF.out.setCell (fun _=>rfl) _⟩;rw [hnil.out];exact hDp.out
   · have hd:=hdig.out i (by omega)
     have hi8:(i:Int)<800:=by omega
     have hst:=strip_row f i;have hc48:(((f i).toNat:Int) == 48)=decide (f i=48):=cast48;by_cases h48:f i=48
     · rw [if_pos h48] at hst
       have hs2:=hst.symm.trans hs;have hv:((f i).toNat:Int)=48:=by rw [h48];rfl
       replace hs:=Hd hs;replace hs2:=Hd hs2;replace hst:=Hd hst;replace hv:=Hd hv;rw [decide_eq_true h48] at hc48;clear h48;go_upto_region 0 with fail
       go_quiet (fail)
       obtain ⟨W,hW,hD,hF⟩:=hstep.out nq;rw [<-hW];have c0' := hD.nd;have z0:=hD.blk.frz 800 none;have hDn:=hD.setN i;replace hW:=Hd hW;replace hDn:=Hd hDn;replace hF:=Hd hF;clear hD;go_wp2_with fail
       go_round
       case rel=>exact ⟨i,by omega,hs2.out,hDn.out,hF.out.setCell (fun _=>rfl) _⟩
       case measure=>rw [hDn.out.nd,c0];simp
     · rw [if_neg h48] at hst
       have hs2:L=row f (i+1):=(hst.symm.trans hs).symm;have hne:¬L=[]:=by rw [hs2,row_succ];simp
       have hlen:L.length=i+1:=by rw [hs2,Dj]
       have hv:¬((f i).toNat:Int)=48:=fun e=>h48 (UInt8.toNat_inj.1 (show (f i).toNat=48 by omega));replace hs:=Hd hs;replace hs2:=Hd hs2;replace hst:=Hd hst;replace hne:=Hd hne;replace hlen:=Hd hlen;rw [decide_eq_false h48] at hc48;clear h48;go_upto_region 0 with fail
       go_quiet (fail)
       obtain ⟨W,hW,hD,hF⟩:=hstep.out nq;rw [<-hW];have c0' := hD.nd;replace hW:=Hd hW;replace hD:=Hd hD;replace hF:=Hd hF;go_wp2
       go_end0
       refine ⟨rfl,hgoal.out _ ?_,hF.out⟩;rw [if_neg hne.out,hlen.out];exact hD.out
theorem lex_nil {l:List UInt8}:An l []=false:=by unfold An;cases l<;>rfl
theorem lex_end {c:UInt8} {m:List UInt8}:An [] (c :: m)=true:=by unfold An;rfl
theorem lex_eq {c:UInt8} {l m:List UInt8}:An (c :: l) (c :: m)=An l m:=by rw [An,if_pos rfl]
theorem lex_ne {a c:UInt8} {l m:List UInt8} (h:a≠c):An (a :: l) (c :: m)=decide (a.toNat<c.toNat):=by rw [An,if_neg h]
theorem row_drop {f:Nat->UInt8} {n i:Nat} (h:i<n):(row f n).drop i=f i :: (row f n).drop (i+1):=by
 rw [List.drop_eq_getElem_cons (by rw [Dj];exact h),row_get f h]
set_option maxRecDepth 100000 in
set_option maxHeartbeats 3200000 in
theorem prefix_any {w:World} {b n:Nat} {f:Nat->UInt8} {dp:Int} {ng tr:Bool} (h:DM w b f n dp ng tr) (hn:n<=800) (C:ByteArray) (hC:C.size<=100) :
   Calls Tryz.prog 156 #[.slice (some ⟨b,0,none⟩) n 800,.string C] w fun e w' => e=.returned (.bool (An (row f n) C.data.toList))/\∃k,w' = w.drewN k:=by
 obtain ⟨R,hR⟩:∃R,R=An (row f n) C.data.toList:=⟨_,rfl⟩
 have hdig:=h.dig
 rw [<-hR]
 replace hR:=Hd hR
 replace hdig:=Hd hdig
 have hn8:(n:Int)<=800:=by omega
 have hC8:(C.size:Int)<=100:=by omega
 clear h
 go_enter Tryz.func156,Tryz.ntmps156
 go_wp2_with fail
 go_loopw [5] (fun i wr=>∃j k:Nat,j<=C.size/\i=.int .i64 j/\An ((row f n).drop j) (C.data.toList.drop j)=R/\wr=w.drewN k) (fun i _=>C.size - (intOf i).toNat)
 case atStart=>exact ⟨0,0,Nat.zero_le _,rfl,hR.out.symm,rfl⟩
 case round=>
   obtain ⟨j,k,hj,rfl,hl,rfl⟩:=hrel;by_cases hjC:j<C.size
   · have hjCi:(j:Int)<(C.size:Int):=by omega
     obtain ⟨c,hc⟩:∃c,C[j]'hjC=c:=⟨_,rfl⟩;have hcl:C.data.toList.drop j=c :: C.data.toList.drop (j+1):=by
       have hlt:j<C.data.toList.length:=by rw [Array.length_toList];exact hjC
       have h1:=Lib.data_getElem? C j hjC;rw [List.getElem?_eq_getElem hlt,hc] at h1;rw [List.drop_eq_getElem_cons hlt,Option.some.inj h1]
     rw [hcl] at hl;replace hcl:=Hd hcl;by_cases hjn:j<n
     · have hjni:(j:Int)<(n:Int):=by omega
       rw [row_drop hjn] at hl;have hd:=hdig.out j (by omega);by_cases he:f j=c
       · have hv:((f j).toNat:Int)=(c.toNat:Int):=by rw [he]
         rw [he,lex_eq] at hl;rw [hv] at hd;replace hl:=Hd hl;clear he hv;go_upto_region 6 with fail
         go_quiet (fail)
         go_wp2_with fail
         go_round
         case rel=>exact ⟨j+1,k+nq,by omega,by go_num,hl.out,rfl⟩
         case measure=>simp [intOf];omega
       · have hv:((((f j).toNat:Int) != (c.toNat:Int)))=true:=by
           rw [bne_iff_ne];intro e;exact he (UInt8.toNat_inj.1 (by omega))
         rw [lex_ne he] at hl;have hR2:decide (((f j).toNat:Int)<(c.toNat:Int))=R:=by
           rw [<-hl];simp
         replace hl:=Hd hl;replace hR2:=Hd hR2;clear he;go_upto_region 6 with fail
         go_quiet (fail)
         go_upto_region 7 with fail
         go_quiet (fail)
         go_wp2;go_ret;refine ⟨by rw [<-hl.out];rfl,?_⟩;simp only [World.drewN_drewN];exact ⟨_,rfl⟩
     · have hjni:¬(j:Int)<(n:Int):=by omega
       have hge:(n:Int)<=(j:Int):=by omega
       rw [List.drop_eq_nil_of_le (by rw [Dj];omega),lex_end] at hl;replace hl:=Hd hl;go_wp2;go_ret;exact ⟨by rw [<-hl.out];rfl,_,rfl⟩
   · have hjCi:¬(j:Int)<(C.size:Int):=by omega
     have hcl:C.data.toList.drop j=[]:=List.drop_eq_nil_of_le (by rw [Array.length_toList];show C.size<=j;omega);rw [hcl,lex_nil] at hl;replace hcl:=Hd hcl;replace hl:=Hd hl;go_wp2;go_ret;exact ⟨by rw [<-hl.out];rfl,_,rfl⟩
def cutS (k:Nat):ByteArray:=⟨(Lib.decDigits (5 ^ k)).toArray⟩
structure Slow (w:World):Prop where
 cheats:∃(b:Addr) (c:Nat),w.cell? ⟨14,0,none⟩=some (.slice (some b) 61 c)/\∀k,1<=k->k<=60->w.cell? (b.add (k * 2))=some (.int .i64 (Ci k:Int))/\w.cell? ⟨(b.add (k * 2)).block,(b.add (k * 2)).off+1,none⟩=some (.string (cutS k))
 pts:∃(b:Addr) (c:Nat),w.cell? ⟨9,0,none⟩=some (.slice (some b) 9 c)/\∀i,i<9->w.cell? (b.add i)=some (.int .i64 (pt i:Int))
 i0:w.cell? ⟨7,0,none⟩=some (.int .u64 52)
 i1:w.cell? ⟨7,1,none⟩=some (.int .u64 11)
 i2:w.cell? ⟨7,2,none⟩=some (.int .i64 (-1023))
theorem Slow.below {w w' : World} (h:Slow w) (hb:Below w.heap.size w w'):Slow w' := by
 obtain ⟨⟨b,c,h1,h2⟩,⟨b', c', h3,h4⟩,h5,h6,h7⟩:=h;have key:∀a v,w.cell? a=some v->w'.cell? a=some v:=fun a v hv=>(hb.cell (World.block_lt_of_cell? _ _ hv)).trans hv;exact ⟨⟨b,c,key _ _ h1,fun k k1 k2=>⟨key _ _ (h2 k k1 k2).1,key _ _ (h2 k k1 k2).2⟩⟩,⟨b', c', key _ _ h3,fun i hi=>key _ _ (h4 i hi)⟩,key _ _ h5,key _ _ h6,key _ _ h7⟩
structure Dn (w0 w:World) (b:Nat):Prop where
 slow:Slow w0
 below:Below w0.heap.size w0 w
 new:w0.heap.size<=b
theorem Dn.fr {w0 w w' : World} {b:Nat} (h:Dn w0 w b) (hf:Fr (fun k=>k=b) w w'):Dn w0 w' b:=
 ⟨h.slow,h.below.trans (hf.below h.below.size (fun i hi e=>by have:=h.new;omega)),h.new⟩
theorem Dn.at {w0 w:World} {b:Nat} (h:Dn w0 w b):Slow w:=h.slow.below h.below
theorem cut_size {k:Nat} (h:k<=60):(cutS k).size<=100:=by
 unfold cutS;show (Lib.decDigits (5 ^ k)).toArray.size<=100;rw [List.size_toArray,Lib.decDigits_length];have:=five_len k;omega
theorem ls_stepN {L:List UInt8} {j k nd i:Nat} {c:UInt8} (hn:nd=L.length) (hd:∀c∈L,isD c=true) (h:j<nd) (hi:i=nd - 1 - j) (hc:L[i]?=some c) :
   valD (L.drop (nd - j)) * 2 ^ k / 10 ^ j+dv c * 2 ^ k=valD (L.drop (nd - (j+1))) * 2 ^ k / 10 ^ j /\
   valD (L.drop (nd - (j+1))) * 2 ^ k / 10 ^ j / 10=valD (L.drop (nd - (j+1))) * 2 ^ k / 10 ^ (j+1) /\
   valD (L.drop (nd - (j+1))) * 2 ^ k / 10 ^ j % 10=valD L * 2 ^ k / 10 ^ j % 10 /\
   valD (L.drop (nd - j)) * 2 ^ k / 10 ^ j<=2 ^ k:=by
 subst hn
 subst hi
 have h1:=ls_step (k:=k) hd h
 rw [List.getElem?_eq_getElem (by omega)] at hc
 rw [Option.some.inj hc] at h1
 exact h1
set_option maxRecDepth 100000 in
set_option maxHeartbeats 6400000 in
theorem dleft_any {w0 w:World} {b k:Nat} {d:Dec} {ng:Bool} (hw:Dn w0 w b) (h:Dm w b d ng) (hg:d.Good) (hk1:1<=k) (hk:k<=60) (hp0:-1000000<=d.dp) (hp1:d.dp<=1000000) :
   Calls Tryz.prog 143 #[.pointer (some ⟨b,0,none⟩),.int .u64 (k:Int)] w fun e w' => e=.returned (.tuple #[])/\Dm w' b (lsD k d) ng/\Fr (fun k=>k=b) w w' := by
 obtain ⟨f,hD,hrow⟩:=h
 have hlen:=ls_len hg k
 obtain ⟨_,hdp,hle,_⟩:=ls_good hg k
 obtain ⟨⟨cb,cc,q1,q2⟩,_⟩:=hw.at
 obtain ⟨q3,q4⟩:=q2 k hk1 hk
 have hn8:=hg.len
 have hv:=hg.val
 have hpre:∀q,Calls Tryz.prog 156 #[.slice (some ⟨b,0,none⟩) (d.L.length) 800,.string (cutS k)] (w.drewN q) fun e w' => e=.returned (.bool (An d.L (cutS k).data.toList))/\∃m,w' = w.drewN m:=fun q=>by
   have h1:=prefix_any (hD.drewN q) hn8 (cutS k) (cut_size hk);rw [hrow] at h1;exact h1.mono fun e w' ⟨he,m,hm⟩=>⟨he,q+m,by rw [hm,World.drewN_drewN]⟩
 obtain ⟨lx,hlx⟩:∃lx,lx=An d.L (cutS k).data.toList:=⟨_,rfl⟩
 have hlx2:An d.L (Lib.decDigits (5 ^ k))=lx:=hlx.symm
 rw [<-hlx] at hpre
 rw [hlx2] at hlen
 have c0:=hD.nd
 have cp:=hD.pt
 have hki:(k:Int)<=60:=by omega
 have hk0:(0:Int)<=(k:Int):=by omega
 obtain ⟨len,hln⟩:∃len,len=(lsO k d).length:=⟨_,rfl⟩
 obtain ⟨nd,hnd⟩:∃nd,nd=d.L.length:=⟨_,rfl⟩
 rw [<-hln,<-hnd] at hlen
 rw [<-hnd] at hD c0 hpre hrow hn8
 obtain ⟨ch,hch⟩:∃ch,ch=Ci k:=⟨_,rfl⟩
 rw [<-hch] at hlen q3
 have hd1:(ch:Int) - (if lx then 1 else 0)=(len:Int) - (nd:Int):=by cases lx<;>simp at hlen ⊢<;>omega
 replace hpre:=Hd hpre
 replace hlx:=Hd hlx
 replace hlx2:=Hd hlx2
 replace hD:=Hd hD
 replace hrow:=Hd hrow
 replace hg:=Hd hg
 replace hln:=Hd hln
 replace hnd:=Hd hnd
 replace hch:=Hd hch
 replace hv:=Hd hv
 replace hw:=Hd hw
 replace hdp:=Hd hdp
 replace hle:=Hd hle
 replace hlen:=Hd hlen
 have hn8i:(nd:Int)<=800:=by omega
 have hk61:(k:Int)<61:=by omega
 have hch9:ch<=61:=by rw [hch.out];unfold Ci;omega
 have hln9:len<=861:=by have:=hlen.out;split at this<;>omega
 have hndl:nd<=len:=by rw [hnd.out,hln.out];exact hle.out
 clear q2
 go_enter Tryz.func143,Tryz.ntmps143
 go_upto_region 1 with fail
 go_quiet ((go_at_call 156;exact hpre.out _))
 go_upto_if 30 with fail
 go_cut [4] from 30 to 32 (fun s4 wx=>s4=.int .i64 ((len:Int) - (nd:Int))/\∃q,wx=w.drewN q)
 case first=>
   cases lx
   · have hd2:(ch:Int)=(len:Int) - (nd:Int):=by simpa using hd1
     replace hd2:=Hd hd2;clear hd1;go_wp2_with fail
     go_meet
     exact ⟨by rw [hd2.out],_,rfl⟩
   · have hd2:(ch:Int) - 1=(len:Int) - (nd:Int):=by simpa using hd1
     replace hd2:=Hd hd2;clear hd1;go_wp2_with fail
     go_meet
     exact ⟨by rw [hd2.out],_,rfl⟩
 case rest=>
   obtain ⟨rfl,q,hww⟩:=hcut;obtain rfl:=hww;clear hpre hlx hlx2 hlen hd1 q1 q3 q4;obtain ⟨dl,hdl⟩:∃dl:Nat,dl=len - nd:=⟨_,rfl⟩;have hdli:(len:Int) - (nd:Int)=(dl:Int):=by omega
   have hdl9:(nd:Int)+(dl:Int)=(len:Int):=by omega
   rw [hdli];replace hdl:=Hd hdl;replace hdli:=Hd hdli;have hDq:=hD.out.drewN q;have hFq:Fr (fun k=>k=b) w (w.drewN q):=(Fr.refl _ _).drewN q;replace hDq:=Hd hDq;replace hFq:=Hd hFq;have hgd:=fun c hc=>hg.out.dig c hc;replace hgd:=Hd hgd;go_wp2_with fail
   go_loopw [5,6,7] (fun s5 s6 s7 wr=>∃j:Nat,j<=nd/\s5=.int .i64 ((nd:Int) - (j:Int) - 1)/\s6=.int .i64 ((len:Int) - (j:Int))/\s7=.int .u64 ((valD (d.L.drop (nd - j)) * 2 ^ k / 10 ^ j:Nat):Int) /\
       ∃g t,DM wr b g nd d.dp ng t/\Behind (lsO k d) f g d.tr t (len - j)/\Fr (fun k=>k=b) w wr) (fun s5 _ _ _=>(intOf s5+1).toNat)
   case atStart=>
     refine ⟨0,Nat.zero_le _,by simp,by simp,?_,f,d.tr,hDq.out,?_,hFq.out⟩
     · rw [Nat.sub_zero,hnd.out,List.drop_length];simp [valD]
     · rw [Nat.sub_zero,hln.out];exact .start
   case round=>
     obtain ⟨j,hj,rfl,rfl,rfl,g,t,hDM,hB,hF⟩:=hrel;by_cases hjn:j<nd
     · obtain ⟨i,hi⟩:∃i,i=nd - 1 - j:=⟨_,rfl⟩
       obtain ⟨p,hp⟩:∃p,p=len - 1 - j:=⟨_,rfl⟩;obtain ⟨A,hA⟩:∃A,A=valD (d.L.drop (nd - j)) * 2 ^ k / 10 ^ j:=⟨_,rfl⟩;rw [<-hA];have hjL:j<d.L.length:=by rw [<-hnd.out];exact hjn
       have hiL:i<d.L.length:=by rw [<-hnd.out];omega
       obtain ⟨c,hc⟩:∃c,c=d.L[i]:=⟨_,rfl⟩;obtain ⟨st1,st2,st3,st4⟩:=ls_stepN (k:=k) (c:=c) hnd.out hgd.out hjn hi (by rw [hc];exact List.getElem?_eq_getElem hiL);rw [<-hA] at st1 st4;obtain ⟨V,hV⟩:∃V,V=valD (d.L.drop (nd - (j+1))) * 2 ^ k / 10 ^ j:=⟨_,rfl⟩;rw [<-hV] at st1 st2 st3;have hcd:isD c=true:=by rw [hc];exact hgd.out _ (List.getElem_mem hiL)
       have hc9:=D8 hcd;have hct48:48<=c.toNat/\c.toNat<=57:=by unfold isD at hcd;simpa using hcd
       obtain ⟨dd,hdd⟩:∃dd,dd=dv c:=⟨_,rfl⟩;rw [<-hdd] at st1 hc9;have hdd2:(c.toNat:Int) - 48=(dd:Int):=by rw [hdd];unfold dv;omega
       have h260:2 ^ k<=1152921504606846976:=by
         have:2 ^ k<=2 ^ 60:=Nat.pow_le_pow_right (by decide) hk;exact this
       obtain ⟨sh,hsh⟩:∃sh,sh=dd * 2 ^ k:=⟨_,rfl⟩;have hsh9:sh<=9 * 1152921504606846976:=by rw [hsh];exact Nat.mul_le_mul hc9 h260
       have hsh2:(dd:Int) * 2 ^ k=(sh:Int):=by rw [hsh];simp
       rw [<-hsh] at st1;have hA9:A<=1152921504606846976:=by omega
       have hAV:(A:Int)+(sh:Int)=(V:Int):=by omega
       have hV9:V<=11529215046068469760:=by omega
       have hgi:g i=c:=by
         have h1:=hB.rest i (by omega);have hrw:=hrow.out;rw [hnd.out] at hrw;rw [h1,row_at hrw hiL,<-hc]
       have hcell:=hDM.dig i (by omega);rw [hgi] at hcell;have hii:(nd:Int) - (j:Int) - 1=(i:Int):=by omega
       have hi8:(i:Int)<800:=by omega
       have hi1:(i:Int) - 1=(nd:Int) - ((j+1:Nat):Int) - 1:=by omega
       obtain ⟨Q,hQ⟩:∃Q,Q=V / 10:=⟨_,rfl⟩;obtain ⟨r,hr⟩:∃r,r=V % 10:=⟨_,rfl⟩;rw [<-hQ] at st2;have hrT:r=valD d.L * 2 ^ k / 10 ^ j % 10:=by rw [hr];exact st3
       replace hi1:=Hd hi1;replace st2:=Hd st2;replace hi:=Hd hi;have hp9:p+1=len - j:=by omega
       replace hp:=Hd hp;replace hA:=Hd hA;replace hV:=Hd hV;replace hc:=Hd hc;replace hdd:=Hd hdd;replace hsh:=Hd hsh;clear st1 st3 st4 hgi hDq hFq hcd hct48 h260;have hr9:r<10:=by rw [hr];exact Nat.mod_lt _ (by decide)
       have hQ9:Q<=V:=by rw [hQ];exact Nat.div_le_self _ _
       have y1:(V:Int).tdiv 10=(Q:Int):=by rw [Int.tdiv_eq_ediv_of_nonneg (by omega)];omega
       have y2:(V:Int) / 10=(Q:Int):=by omega
       have y3:(V:Int) - 10 * (Q:Int)=(r:Int):=by omega
       have y4:(len:Int) - (j:Int) - 1=(p:Int):=by omega
       have y5:(r:Int)+48=((dg8 r).toNat:Int):=by unfold dg8;rw [B5 hr9];omega
       have hcp:=hDM.dig;have hz:=hDM.blk.frz p none;have hzt:=hDM.blk.frz 803 none;have hct:=hDM.cut;have hput:=fun h8=>hDM.put (i:=p) h8 (dg8 r);have hset:=hDM.setT true;have hlp:p<(lsO k d).length:=by rw [<-hln.out];omega
       have hOp:(lsO k d)[p]'hlp=dg8 r:=by
         obtain ⟨r', e1,e2,_⟩:=ls_at k d (j:=j) (by rw [<-hln.out];omega);have e3:(lsO k d).length - 1 - j=p:=by rw [<-hln.out];omega
         simp only [e3] at e1;rw [e1,e2,hrT]
       have hBp:Behind (lsO k d) f g d.tr t (p+1):=by rw [hp9];exact hB
       have hfin:((len:Int) - ((j+1:Nat):Int))=(p:Int):=by omega
       have hpl:len - (j+1)=p:=by omega
       replace hrT:=Hd hrT;replace hfin:=Hd hfin;replace hpl:=Hd hpl;replace hOp:=Hd hOp;replace hset:=Hd hset;replace hB:=Hd hB;have hlp' := hlp;replace hp9:=Hd hp9;replace hr:=Hd hr;replace hQ:=Hd hQ;by_cases h8:p<800
       · have hcp' := hcp p h8
         have hput' := hput h8;have hBn:=hBp.put hlp h8;rw [hOp.out] at hBn;replace hlp:=Hd hlp;replace hlp' := Hd hlp';have h8i:(p:Int)<800:=by omega
         replace hBn:=Hd hBn;replace hput' := Hd hput';replace hput:=Hd hput;replace hcp:=Hd hcp;replace hBp:=Hd hBp;replace hDM:=Hd hDM;replace hF:=Hd hF;go_wp2_with fail
         go_round
         case rel=>exact ⟨j+1,by omega,(by rw [hi1.out]),(by rw [hfin.out]),(by rw [st2.out]),stF g p (dg8 r),t,hput'.out,by rw [hpl.out];exact hBn.out,hF.out.setCell (fun _=>rfl) _⟩
         case measure=>simp [intOf];omega
       · have h8i:¬(p:Int)<800:=by omega
         have hBn:=hBp.skip hlp (by omega);rw [hOp.out,dg8_ne hr9] at hBn;replace hlp:=Hd hlp;replace hlp' := Hd hlp';replace hput:=Hd hput;replace hcp:=Hd hcp;replace hBp:=Hd hBp;replace hDM:=Hd hDM;replace hF:=Hd hF;by_cases hr0:r=0
         · rw [decide_eq_false (by omega),Bool.or_false] at hBn
           have hb0:((r:Int) != 0)=false:=by rw [hr0];rfl
           replace hBn:=Hd hBn;replace hr0:=Hd hr0;go_wp2_with fail
           go_round
           case rel=>exact ⟨j+1,by omega,(by rw [hi1.out]),(by rw [hfin.out]),(by rw [st2.out]),g,t,hDM.out,by rw [hpl.out];exact hBn.out,hF.out⟩
           case measure=>simp [intOf];omega
         · rw [decide_eq_true (by omega),Bool.or_true] at hBn
           have hb0:((r:Int) != 0)=true:=by simp;omega
           replace hBn:=Hd hBn;replace hr0:=Hd hr0;go_wp2_with fail
           go_round
           case rel=>exact ⟨j+1,by omega,(by rw [hi1.out]),(by rw [hfin.out]),(by rw [st2.out]),g,true,hset.out,by rw [hpl.out];exact hBn.out,hF.out.setCell (fun _=>rfl) _⟩
           case measure=>simp [intOf];omega
     · have hje:nd=j:=by omega
       subst hje;obtain ⟨T,hT⟩:∃T,T=valD d.L * 2 ^ k:=⟨_,rfl⟩;have hT0:0<T:=by
         rw [hT];exact Nat.mul_pos (Nat.lt_of_lt_of_le (Nat.pow_pos (by decide)) hv.out.1) (Nat.two_pow_pos k)
       have hlenT:len=Lib.nDigits T:=by rw [hln.out,hT];unfold lsO;exact Lib.decDigits_length _
       rw [Nat.sub_self,List.drop_zero,<-hT];have hs5:(nd:Int) - (nd:Int) - 1=-1:=by omega
       have hTb:T / 10 ^ nd<=1152921504606846976:=by
         have h260:2 ^ k<=1152921504606846976:=by
           have:2 ^ k<=2 ^ 60:=Nat.pow_le_pow_right (by decide) hk;exact this
         have hvl:=Bw hgd.out;rw [<-hnd.out] at hvl;have hp:0<10 ^ nd:=Nat.pow_pos (by decide);rw [hT];refine Nat.le_trans (Nat.div_le_div_right (c:=10 ^ nd) (Nat.mul_le_mul_right (2 ^ k) (Nat.le_of_lt hvl))) ?_;rw [Nat.mul_comm,Nat.mul_div_cancel _ hp];exact h260
       replace hDM:=Hd hDM;replace hB:=Hd hB;replace hF:=Hd hF;replace hT:=Hd hT;replace hlenT:=Hd hlenT;replace hTb:=Hd hTb;clear hDq hFq hj hjn;go_wp2_with fail
       go_loopw [6,7] (fun s6 s7 wx=>∃j:Nat,j<=len/\nd<=j/\s6=.int .i64 ((len:Int) - (j:Int))/\s7=.int .u64 ((T / 10 ^ j:Nat):Int) /\
           ∃g t,DM wx b g nd d.dp ng t/\Behind (lsO k d) f g d.tr t (len - j)/\Fr (fun k=>k=b) w wx) (fun s6 _ _=>(intOf s6).toNat)
       case atStart=>exact ⟨nd,hndl,Nat.le_refl _,rfl,rfl,g,t,hDM.out,hB.out,hF.out⟩
       case round=>
         clear hDM hB hF;obtain ⟨j,hjl,hnj,rfl,rfl,g,t,hDM,hB,hF⟩:=hrel;obtain ⟨V,hV⟩:∃V,V=T / 10 ^ j:=⟨_,rfl⟩;have hV9:V<=1152921504606846976:=by
           refine Nat.le_trans ?_ hTb.out;rw [hV];exact Nat.div_le_div_left (Nat.pow_le_pow_right (by decide) hnj) (Nat.pow_pos (by decide))
         by_cases hV0:0<V
         · have hjlt:j<len:=by rw [hlenT.out];exact ls_more (by rw [<-hV];exact hV0)
           have hV0i:(0:Int)<(V:Int):=by omega
           obtain ⟨p,hp⟩:∃p,p=len - 1 - j:=⟨_,rfl⟩;obtain ⟨Q,hQ⟩:∃Q,Q=V / 10:=⟨_,rfl⟩;obtain ⟨r,hr⟩:∃r,r=V % 10:=⟨_,rfl⟩;have st2:Q=T / 10 ^ (j+1):=by rw [hQ,hV];exact ls_div
           have hrT:r=valD d.L * 2 ^ k / 10 ^ j % 10:=by rw [hr,hV,hT.out]
           have hp9:p+1=len - j:=by omega
           rw [<-hV];replace st2:=Hd st2;replace hp:=Hd hp;replace hV:=Hd hV;clear hjl;have hr9:r<10:=by rw [hr];exact Nat.mod_lt _ (by decide)
           have hQ9:Q<=V:=by rw [hQ];exact Nat.div_le_self _ _
           have y1:(V:Int).tdiv 10=(Q:Int):=by rw [Int.tdiv_eq_ediv_of_nonneg (by omega)];omega
           have y2:(V:Int) / 10=(Q:Int):=by omega
           have y3:(V:Int) - 10 * (Q:Int)=(r:Int):=by omega
           have y4:(len:Int) - (j:Int) - 1=(p:Int):=by omega
           have y5:(r:Int)+48=((dg8 r).toNat:Int):=by unfold dg8;rw [B5 hr9];omega
           have hcp:=hDM.dig;have hz:=hDM.blk.frz p none;have hzt:=hDM.blk.frz 803 none;have hct:=hDM.cut;have hput:=fun h8=>hDM.put (i:=p) h8 (dg8 r);have hset:=hDM.setT true;have hlp:p<(lsO k d).length:=by rw [<-hln.out];omega
           have hOp:(lsO k d)[p]'hlp=dg8 r:=by
             obtain ⟨r', e1,e2,_⟩:=ls_at k d (j:=j) (by rw [<-hln.out];omega);have e3:(lsO k d).length - 1 - j=p:=by rw [<-hln.out];omega
             simp only [e3] at e1;rw [e1,e2,hrT]
           have hBp:Behind (lsO k d) f g d.tr t (p+1):=by rw [hp9];exact hB
           have hfin:((len:Int) - ((j+1:Nat):Int))=(p:Int):=by omega
           have hpl:len - (j+1)=p:=by omega
           replace hrT:=Hd hrT;replace hfin:=Hd hfin;replace hpl:=Hd hpl;replace hOp:=Hd hOp;replace hset:=Hd hset;replace hB:=Hd hB;have hlp' := hlp;replace hp9:=Hd hp9;replace hr:=Hd hr;replace hQ:=Hd hQ;by_cases h8:p<800
           · have hcp' := hcp p h8
             have hput' := hput h8;have hBn:=hBp.put hlp h8;rw [hOp.out] at hBn;replace hlp:=Hd hlp;replace hlp' := Hd hlp';have h8i:(p:Int)<800:=by omega
             replace hBn:=Hd hBn;replace hput' := Hd hput';replace hput:=Hd hput;replace hcp:=Hd hcp;replace hBp:=Hd hBp;replace hDM:=Hd hDM;replace hF:=Hd hF;go_wp2_with fail
             go_round
             case rel=>exact ⟨j+1,by omega,(by omega),(by rw [hfin.out]),(by rw [st2.out]),stF g p (dg8 r),t,hput'.out,by rw [hpl.out];exact hBn.out,hF.out.setCell (fun _=>rfl) _⟩
             case measure=>simp [intOf];omega
           · have h8i:¬(p:Int)<800:=by omega
             have hBn:=hBp.skip hlp (by omega);rw [hOp.out,dg8_ne hr9] at hBn;replace hlp:=Hd hlp;replace hlp' := Hd hlp';replace hput:=Hd hput;replace hcp:=Hd hcp;replace hBp:=Hd hBp;replace hDM:=Hd hDM;replace hF:=Hd hF;by_cases hr0:r=0
             · rw [decide_eq_false (by omega),Bool.or_false] at hBn
               have hb0:((r:Int) != 0)=false:=by rw [hr0];rfl
               replace hBn:=Hd hBn;replace hr0:=Hd hr0;go_wp2_with fail
               go_round
               case rel=>exact ⟨j+1,by omega,(by omega),(by rw [hfin.out]),(by rw [st2.out]),g,t,hDM.out,by rw [hpl.out];exact hBn.out,hF.out⟩
               case measure=>simp [intOf];omega
             · rw [decide_eq_true (by omega),Bool.or_true] at hBn
               have hb0:((r:Int) != 0)=true:=by simp;omega
               replace hBn:=Hd hBn;replace hr0:=Hd hr0;go_wp2_with fail
               go_round
               case rel=>exact ⟨j+1,by omega,(by omega),(by rw [hfin.out]),(by rw [st2.out]),g,true,hset.out,by rw [hpl.out];exact hBn.out,hF.out.setCell (fun _=>rfl) _⟩
               case measure=>simp [intOf];omega
         · have hV00:V=0:=by omega
           have hj9:j=len:=by
             have:=ls_done hT0 (by rw [<-hV];exact hV00);rw [<-hlenT.out] at this;omega
           subst hV00;subst hj9;rw [Nat.sub_self] at hB;obtain ⟨w1,w2⟩:=hB.whole;rw [<-hV];rw [<-hln.out] at w1;have hfinal:lsD k d=D9 (row g (min 800 j)) (d.dp+(dl:Int)) t:=by
             have hd:(dl:Int)=(j:Int) - (nd:Int):=by omega
             unfold lsD;rw [<-w1,<-w2,<-hln.out,<-hnd.out,hd]
           replace w1:=Hd w1;replace w2:=Hd w2;have c0:=hDM.nd;have c1:=hDM.pt;have z0:=hDM.blk.frz 800 none;have z1:=hDM.blk.frz 801 none;replace hV:=Hd hV;replace hfinal:=Hd hfinal;replace hB:=Hd hB;clear hT0 hV0 hjl hnj cp;by_cases h8:800<=j
           · have h8i:(800:Int)<=(j:Int):=by omega
             have hm:min 800 j=800:=by omega
             have hD3:=((hDM.setN j).setN 800).setP (d.dp+(dl:Int));have hF3:=((hF.setCell (p:=⟨b,800,none⟩) (fun _=>rfl) (.int .i64 (j:Int))).setCell (p:=⟨b,800,none⟩) (fun _=>rfl) (.int .i64 ((800:Nat):Int))).setCell (p:=⟨b,801,none⟩) (fun _=>rfl) (.int .i64 (d.dp+(dl:Int)));have htr:=Gs hD3 (Nat.le_refl _);rw [hm] at hfinal;rw [<-hfinal.out] at htr;replace htr:=Hd htr;replace hD3:=Hd hD3;replace hF3:=Hd hF3;replace hDM:=Hd hDM;replace hF:=Hd hF;replace hfinal:=Hd hfinal;replace hm:=Hd hm;go_wp2_with fail
             refine htr.out.mono ?_;rintro e w' ⟨rfl,hd', hf'⟩;replace hd' := Hd hd';replace hf' := Hd hf';go_wp2
             go_end0
             exact ⟨rfl,hd'.out,hF3.out.trans hf'.out⟩
           · have h8i:¬(800:Int)<=(j:Int):=by omega
             have hm:min 800 j=j:=by omega
             have hD3:=(hDM.setN j).setP (d.dp+(dl:Int));have hF3:=(hF.setCell (p:=⟨b,800,none⟩) (fun _=>rfl) (.int .i64 (j:Int))).setCell (p:=⟨b,801,none⟩) (fun _=>rfl) (.int .i64 (d.dp+(dl:Int)));have htr:=Gs hD3 (by omega);rw [hm] at hfinal;rw [<-hfinal.out] at htr;replace htr:=Hd htr;replace hD3:=Hd hD3;replace hF3:=Hd hF3;replace hDM:=Hd hDM;replace hF:=Hd hF;replace hfinal:=Hd hfinal;replace hm:=Hd hm;go_wp2_with fail
             refine htr.out.mono ?_;rintro e w' ⟨rfl,hd', hf'⟩;replace hd' := Hd hd';replace hf' := Hd hf';go_wp2
             go_end0
             exact ⟨rfl,hd'.out,hF3.out.trans hf'.out⟩
end Go.Proofs.YteoalcmhdoopnaaGreatDoor
