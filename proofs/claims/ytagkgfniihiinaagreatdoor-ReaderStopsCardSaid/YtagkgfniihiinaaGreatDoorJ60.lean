/- The number that a text is. -/
import Derived.Test.YtagkgfniihiinaaGreatDoorJ56
import Derived.Test.YtagkgfniihiinaaGreatDoorShelf
set_option linter.all false
set_option maxHeartbeats 6400000
set_option maxRecDepth 100000
namespace Go.Proofs.YtagkgfniihiinaaGreatDoor
open Go.RowKit Go
def digs:List UInt8->Int->Option Int
 | [],n=>some n
 | c :: l,n=>if (c.toNat:Int) - 48<0\/9<(c.toNat:Int) - 48 then none else if n < -922337203685477580\/n=-922337203685477580/\8<(c.toNat:Int) - 48 then none else digs l (10 * n - ((c.toNat:Int) - 48))
def least:Int:=-9223372036854775808
def refM (t:List UInt8):Option Int:=if t.length=0\/19<t.length\/t.head?=some 48 then none else digs t 0
def refN (t:List UInt8):Option Int:=if t.length=0\/19<t.length\/t.head?=some 48/\1<t.length then none else match digs t 0 with
 | some n=>if n=least then none else some (-n)
 | none=>none
def refP (l:List UInt8):Option Int:=if l.head?=some 45 then refM l.tail else refN l
def wP (l:List UInt8):Option Int:=match Lib.atoiAll l with
 | .ok v=>if Lib.itoa v=l then some v else none
 | _=>none
def dig (c:UInt8):Prop:=48<=c.toNat/\c.toNat<=57
def step (a:Nat) (c:UInt8):Nat:=a * 10+(c.toNat - 48)
def valF (a:Nat) (l:List UInt8):Nat:=l.foldl step a
theorem Dk (a:Nat) (c:UInt8) (l:List UInt8):valF a (c :: l)=valF (a * 10+(c.toNat - 48)) l:=by unfold valF;rw [List.foldl_cons];rfl
theorem Gi (a:Nat):valF a []=a:=rfl
theorem Gn:∀(l:List UInt8) (a:Nat) (m:List UInt8),valF a (l++m)=valF (valF a l) m
 | [],_,_=>rfl
 | c :: l,a,m=>by rw [List.cons_append,Dk,Dk];exact Gn l _ m
theorem valF_le:∀(l:List UInt8) (a:Nat),a * 10 ^ l.length<=valF a l
 | [],a=>by rw [Gi];simp
 | c :: l,a=>by
  have h:=valF_le l (a * 10+(c.toNat - 48));rw [Dk,List.length_cons,Nat.pow_succ];refine Nat.le_trans ?_ h;rw [Nat.add_mul,Nat.mul_assoc,Nat.mul_comm 10];omega
theorem valF_ge (l:List UInt8) (a:Nat):a<=valF a l:=Nat.le_trans (Nat.le_mul_of_pos_right a (Nat.pow_pos (by decide))) (valF_le l a)
theorem byte_of {k:Nat} (h:k<10):(UInt8.ofNat (48+k)).toNat=48+k:=UInt8.toNat_ofNat_of_lt' (by have:UInt8.size=256:=rfl;omega)
theorem dec_dig:∀(u:Nat),∀c∈Lib.decDigits u,dig c:=by
 intro u;induction u using Nat.strongRecOn with
 | _ u ih=>
  intro c hc;rw [Lib.decDigits] at hc;split at hc
  ·rename_i h
   simp only [List.mem_singleton] at hc;subst hc;unfold dig;rw [byte_of h];omega
  ·rename_i h
   rcases List.mem_append.1 hc with hc | hc
   ·exact ih (u / 10) (by omega) c hc
   ·simp only [List.mem_singleton] at hc
    subst hc;unfold dig;rw [byte_of (by omega)];omega
theorem Fo:∀(u:Nat),valF 0 (Lib.decDigits u)=u:=by
 intro u;induction u using Nat.strongRecOn with
 | _ u ih=>
  rw [Lib.decDigits];split
  ·rename_i h
   simp only [Dk,Gi,byte_of h];omega
  ·rename_i h
   rw [Gn,ih (u / 10) (by omega)];simp only [Dk,Gi,byte_of (show u % 10<10 by omega)];omega
theorem dec_pos (u:Nat):Lib.decDigits u≠[]:=by
 rw [Lib.decDigits];split<;>simp
theorem decN_head:∀(u:Nat),0<u->(Lib.decDigits u).head?≠some 48:=by
 intro u;induction u using Nat.strongRecOn with
 | _ u ih=>
  intro h0;rw [Lib.decDigits];split
  ·rename_i h
   simp only [List.head?_cons,ne_eq,Option.some.injEq];intro e;have:=congrArg UInt8.toNat e;rw [byte_of h] at this;have e48:(48:UInt8).toNat=48:=rfl;omega
  ·rename_i h
   rw [List.head?_append];have h1:=ih (u / 10) (by omega) (by omega);cases hd:(Lib.decDigits (u / 10)).head? with
   | none=>rw [List.head?_eq_none_iff] at hd;exact absurd hd (dec_pos _)
   | some c=>rw [hd] at h1;simpa using h1
theorem dec_zero:Lib.decDigits 0=[48]:=by rw [Lib.decDigits];rfl
theorem dec_of:∀(n:Nat) (l:List UInt8),l.length=n->l≠[]->(∀c∈l,dig c)->(l.head?=some 48->l.length=1)->Lib.decDigits (valF 0 l)=l:=by
 intro n;induction n using Nat.strongRecOn with
 | _ n ih=>
 intro l hn hl hd h0;obtain ⟨m,c,rfl⟩:∃m c,l=m++[c]:=⟨l.dropLast,l.getLast hl,(List.dropLast_concat_getLast hl).symm⟩;have hc:=hd c (by simp);unfold dig at hc;rw [Gn,Dk,Gi];have b:UInt8.ofNat (48+(c.toNat - 48))=c:=by
  rw [show 48+(c.toNat - 48)=c.toNat by omega];simp
 by_cases hm:m=[]
 ·subst hm
  rw [Gi,Lib.decDigits,dif_pos (by omega)];simp only [Nat.zero_mul,Nat.zero_add,List.nil_append,List.cons.injEq,and_true];exact b
 ·have a:m.head?≠some 48:=fun e=>by
   have h1:(m++[c]).head?=some 48:=by rw [List.head?_append,e];rfl
   have h2:=h0 h1;rw [List.length_append] at h2;have:=List.length_pos_iff.2 hm;simp at h2;exact hm h2
  have d:m.length<n:=by rw [<-hn];simp
  have h1:=ih m.length d m rfl hm (fun x hx=>hd x (List.mem_append_left _ hx)) (fun e=>absurd e a);have hv:0<valF 0 m:=by
   rcases Nat.eq_zero_or_pos (valF 0 m) with e | e
   ·rw [e,dec_zero] at h1
    rw [<-h1] at a;simp at a
   ·exact e
  rw [Lib.decDigits,dif_neg (by omega)];rw [show (valF 0 m * 10+(c.toNat - 48)) / 10=valF 0 m by omega,h1,show (valF 0 m * 10+(c.toNat - 48)) % 10=c.toNat - 48 by omega,b]
theorem parse_dig:∀(l:List UInt8) (a:Nat),(∀c∈l,dig c)->valF a l<18446744073709551616->Lib.parseUint10 a l=.ok (valF a l)
 | [],_,_,_=>rfl
 | c :: l,a,hd,hv=>by
  have hc:=hd c (by simp);unfold dig at hc;rw [Dk] at hv ⊢;have h1:=valF_ge l (a * 10+(c.toNat - 48));rw [Lib.parseUint10,if_pos hc,if_neg (by omega),if_neg (by omega)];exact parse_dig l _ (fun x hx=>hd x (List.mem_cons_of_mem _ hx)) hv
theorem parse_dec (u:Nat) (h:u<18446744073709551616):Lib.parseMag (Lib.decDigits u)=.ok u:=by
 unfold Lib.parseMag;rw [if_neg (dec_pos u),parse_dig _ _ (dec_dig u) (by rw [Fo];exact h),Fo]
theorem atoi_itoa {v:Int} (h0:-9223372036854775808<=v) (h1:v<=9223372036854775807):Lib.atoiAll (Lib.itoa v)=.ok v:=by
 unfold Lib.itoa;split
 ·rename_i h
  rw [Lib.atoiAll_minus,parse_dec _ (by omega)];simp only [Lib.signed];rw [if_neg (by omega)];congr 1;omega
 ·rename_i h
  have hp:=parse_dec v.toNat (by omega);cases hl:Lib.decDigits v.toNat with
  | nil=>exact absurd hl (dec_pos _)
  | cons c r=>
   have hc:=dec_dig v.toNat c (by rw [hl];simp);unfold dig at hc;rw [Lib.atoiAll_plain c r (by omega) (by omega),<-hl,hp];simp only [Lib.signless];rw [if_neg (by omega)];congr 1;omega
theorem wP_iff {l:List UInt8} {v:Int}:wP l=some v ↔ (-9223372036854775808<=v/\v<=9223372036854775807)/\Lib.itoa v=l:=by
 unfold wP;constructor
 ·intro h
  split at h
  ·rename_i u hu
   split at h
   ·rename_i hi
    simp only [Option.some.injEq] at h;subst h;exact ⟨Lib.atoiAll_bounds hu,hi⟩
   ·cases h
  ·cases h
 ·rintro ⟨⟨h0,h1⟩,rfl⟩
  rw [atoi_itoa h0 h1];simp
theorem digs_some:∀(l:List UInt8) (a:Nat) (n:Int),digs l (-(a:Int))=some n->(∀c∈l,dig c)/\n=-(valF a l:Int)/\(a<=9223372036854775808->valF a l<=9223372036854775808)
 | [],a,n,h=>by
   simp only [digs,Option.some.injEq] at h;exact ⟨fun c hc=>(by cases hc),h.symm,fun h=>h⟩
 | c :: l,a,n,h=>by
   rw [digs] at h;by_cases p1:(c.toNat:Int) - 48<0\/9<(c.toNat:Int) - 48
   · rw [if_pos p1] at h;cases h
   rw [if_neg p1] at h;by_cases p2:-(a:Int) < -922337203685477580\/-(a:Int)=-922337203685477580/\8<(c.toNat:Int) - 48
   · rw [if_pos p2] at h;cases h
   rw [if_neg p2,show 10 * -(a:Int) - ((c.toNat:Int) - 48)=-((a * 10+(c.toNat - 48):Nat):Int) by omega] at h;obtain ⟨h1,h2,h3⟩:=digs_some l _ n h;refine ⟨fun x hx=>?_,h2,fun ha=>h3 (by omega)⟩;rcases List.mem_cons.1 hx with rfl | hx
   · unfold dig;omega
   · exact h1 x hx
theorem digs_of:∀(l:List UInt8) (a:Nat),(∀c∈l,dig c)->valF a l<=9223372036854775808->digs l (-(a:Int))=some (-(valF a l:Int))
 | [],a,_,_=>rfl
 | c :: l,a,hd,hv=>by
  have hc:=hd c (by simp);unfold dig at hc;rw [Dk] at hv ⊢;have h1:=valF_ge l (a * 10+(c.toNat - 48));rw [digs,if_neg (by omega),if_neg (by omega),show 10 * -(a:Int) - ((c.toNat:Int) - 48)=-((a * 10+(c.toNat - 48):Nat):Int) by omega];exact digs_of l _ (fun x hx=>hd x (List.mem_cons_of_mem _ hx)) hv
theorem dec_len (u:Nat) (h:u<=9223372036854775808):(Lib.decDigits u).length<=19:=by
 rw [Lib.decDigits_length];rcases Nat.lt_or_ge (Lib.nDigits u) 20 with h1 | h1
 ·omega
 ·exfalso
  have hl:∀(n u:Nat),u<10 ^ n->0<n->Lib.nDigits u<=n:=by
   intro n;induction n with
   | zero=>intro u _ h;omega
   | succ n ih=>
    intro u hu _;by_cases hs:u<10
    ·rw [Lib.nDigits_small hs];omega
    ·rw [Lib.nDigits_big hs]
     have:0<n:=by
      rcases Nat.eq_zero_or_pos n with e | e
      ·subst e;simp at hu;omega
      ·exact e
     have:=ih (u / 10) (by rw [Nat.pow_succ] at hu;omega) this;omega
  have:=hl 19 u (by omega) (by decide);omega
theorem refP_wP (l:List UInt8):refP l=wP l:=by
 have a:∀v,refP l=some v ↔ wP l=some v:=fun v=>by
  rw [wP_iff];unfold refP;by_cases h45:l.head?=some 45
  ·rw [if_pos h45]
   obtain ⟨t,rfl⟩:∃t,l=45 :: t:=by
    cases l with
    | nil=>cases h45
    | cons c t=>simp at h45;exact ⟨t,by rw [h45]⟩
   simp only [List.tail_cons];constructor
   ·intro h
    unfold refM at h;split at h
    ·cases h
    ·rename_i hc
     obtain ⟨h1,h2,h3⟩:=digs_some t 0 v h;have h4:=h3 (by omega);have ht:t≠[]:=fun e=>hc (Or.inl (by rw [e];rfl));have h5:=dec_of t.length t rfl ht h1 (fun e=>absurd (Or.inr (Or.inr e)) hc);have hv:0<valF 0 t:=by
      rcases Nat.eq_zero_or_pos (valF 0 t) with e | e
      ·rw [e,dec_zero] at h5
       exact absurd (Or.inr (Or.inr (by rw [<-h5];rfl))) hc
      ·exact e
     refine ⟨by omega,?_⟩;unfold Lib.itoa;rw [if_pos (by omega),show v.natAbs=valF 0 t by omega,h5]
   ·rintro ⟨⟨h0,h1⟩,h2⟩
    unfold Lib.itoa at h2;split at h2
    ·rename_i hn
     simp only [List.cons.injEq,true_and] at h2;subst h2;unfold refM;rw [if_neg]
     ·have:=digs_of (Lib.decDigits v.natAbs) 0 (dec_dig _) (by rw [Fo];omega)
      rw [Fo] at this;rw [show (0:Int)=-((0:Nat):Int) by rfl,this];congr 1;omega
     ·rintro (h | h | h)
      ·exact dec_pos _ (List.length_eq_zero_iff.1 h)
      ·have:=dec_len v.natAbs (by omega);omega
      ·exact decN_head v.natAbs (by omega) h
    ·have:=dec_dig v.toNat 45 (by rw [h2];simp)
     unfold dig at this;exact absurd this.1 (by decide)
  ·rw [if_neg h45]
   constructor
   ·intro h
    unfold refN at h;split at h
    ·cases h
    ·rename_i hc
     split at h
     ·rename_i n hn
      split at h
      ·cases h
      ·rename_i hl
       simp only [Option.some.injEq] at h;obtain ⟨h1,h2,h3⟩:=digs_some l 0 n hn;have h4:=h3 (by omega);have ht:l≠[]:=fun e=>hc (Or.inl (by rw [e];rfl));have h5:=dec_of l.length l rfl ht h1 (fun e=>by
        have:¬1<l.length:=fun e' => hc (Or.inr (Or.inr ⟨e,e'⟩));have:=List.length_pos_iff.2 ht;omega)
       unfold least at hl;refine ⟨by omega,?_⟩;unfold Lib.itoa;rw [if_neg (by omega),show v.toNat=valF 0 l by omega,h5]
     ·cases h
   ·rintro ⟨⟨h0,h1⟩,h2⟩
    unfold Lib.itoa at h2;split at h2
    ·rw [<-h2] at h45;simp at h45
    ·rename_i hn
     subst h2;unfold refN;rw [if_neg]
     ·have:=digs_of (Lib.decDigits v.toNat) 0 (dec_dig _) (by rw [Fo];omega)
      rw [Fo] at this;rw [show (0:Int)=-((0:Nat):Int) by rfl,this];simp only;rw [if_neg (by unfold least;omega)];congr 1;omega
     ·rintro (h | h | ⟨h,h'⟩)
      ·exact dec_pos _ (List.length_eq_zero_iff.1 h)
      ·have:=dec_len v.toNat (by omega);omega
      ·rcases Nat.eq_zero_or_pos v.toNat with e | e
       ·rw [e,dec_zero] at h'; simp at h'
       ·exact decN_head v.toNat e h
 cases h1:refP l with
 | some v=>exact ((a v).1 h1).symm
 | none=>
  cases h2:wP l with
  | none=>rfl
  | some v=>rw [(a v).2 h2] at h1;cases h1
end Go.Proofs.YtagkgfniihiinaaGreatDoor
namespace Go.Proofs.YtagkgfniihiinaaGreatDoor
open Go.RowKit
def NumOr (r:Option Int) (err:Int) (w:World) (e:Ending) (w' : World):Prop:=(e=.returned (.tuple #[.int .i64 (r.getD 0),.int .i64 (if r.isSome then 0 else err)]))/\Below w.heap.size w w'
theorem Ap {w w' : World} {err:Int} {e:Ending} (h:e=.returned (.tuple #[.int .i64 0,.int .i64 err])) (hb:Below w.heap.size w w'):NumOr none err w e w' := ⟨h,hb⟩
theorem F2 {v:Int} {w w' : World} {err:Int} {e:Ending} (h:e=.returned (.tuple #[.int .i64 v,.int .i64 0])) (hb:Below w.heap.size w w'):NumOr (some v) err w e w' := ⟨h,hb⟩
def posD (D:Option Int):Option Int:=match D with | some n=>if n=least then none else some (-n) | none=>none
theorem parse01_loopN (t:ByteArray) (h0:0<t.size) (h1:t.size<=19) (h2:(t[0]'h0).toNat≠45) (h3:(t[0]'h0).toNat=48->t.size=1) (D:Option Int) (hd:digs t.data.toList 0=D) (w:World) :
  Calls Tryz.prog 91 #[.string t] w (NumOr (posD D) 11 w):=by
 obtain ⟨c0,hc0⟩:∃c:UInt8,t[0]'h0=c:=⟨_,rfl⟩;rw [hc0] at h2 h3;have f1:((c0.toNat:Int) == 45)=false:=by simpa using fun h=>h2 (by omega)
 have h0i:(0:Int)<t.size:=by omega
 have h0z:((t.size:Int) == 0)=false:=beq_eq_false_iff_ne.2 (by omega);have h1i:¬(19:Int)<t.size:=by omega
 replace hd:=Hd hd;by_cases hz:c0.toNat=48
 ·have f2:((c0.toNat:Int) == 48)=true:=by simpa using by omega
  have h3i:¬(1:Int)<t.size:=by have:=h3 hz;omega
  clear h2 h3 hz
  go_enter Tryz.func91,Tryz.ntmps91
  go_wp2_with fail
  go_loopw [6,7] (fun n i wr=>∃(k:Nat) (z:Int),k<=t.size/\digs (t.data.toList.drop k) z=D/\n=.int .i64 z/\i=.int .i64 k/\-9223372036854775808<=z/\z<=0/\Below w.heap.size w wr) (fun _ i _=>t.size - (intOf i).toNat)
  case atStart=>exact ⟨0,0,Nat.zero_le _,hd.out,rfl,rfl,by omega,by omega,Below.refl _ _⟩
  case round=>
   obtain ⟨k,z,hk,hz,rfl,rfl,z1,z2,a⟩:=hrel;clear hd;by_cases hlt:k<t.size
   ·obtain ⟨c,hc⟩:∃c:UInt8,t[k]'hlt=c:=⟨_,rfl⟩
    have b:t.data.toList[k]?=some c:=by rw [Lib.data_getElem? t k hlt,hc]
    obtain ⟨e,f⟩:=List.getElem?_eq_some_iff.1 b;rw [List.drop_eq_getElem_cons e,f,digs] at hz;have j:(k:Int)<t.size:=by omega
    by_cases p1:(c.toNat:Int) - 48<0\/9<(c.toNat:Int) - 48
    ·rw [if_pos p1] at hz
     subst hz;obtain ⟨d,hd⟩:∃d,d=(c.toNat:Int) - 48:=⟨_,rfl⟩;have g:c.toNat<256:=c.toNat_lt;rw [<-hd] at p1;have q0:-48<=d/\d<=207:=by omega
     by_cases q1:d<0
     ·clear p1 f e b
      go_wp2_with fail
      rw [<-hd];go_wp2_with fail
      go_ret2
      exact Ap rfl a
     ·have q2:9<d:=by omega
      clear p1 f e b;go_wp2_with fail
      rw [<-hd];go_wp2_with fail
      go_ret2
      exact Ap rfl a
    ·rw [if_neg p1] at hz
     obtain ⟨d,hd⟩:∃d,d=(c.toNat:Int) - 48:=⟨_,rfl⟩;have g:c.toNat<256:=c.toNat_lt;rw [<-hd] at hz p1;have q1:¬d<0:=by omega
     have q2:¬9<d:=by omega
     by_cases p2:z < -922337203685477580\/z=-922337203685477580/\8<d
     ·rw [if_pos p2] at hz
      subst hz;by_cases q3:z < -922337203685477580
      ·clear p1 p2 f e b
       go_wp2_with fail
       rw [<-hd];go_wp2_with fail
       go_ret2
       exact Ap rfl a
      ·have q4:z=-922337203685477580:=by omega
       have q5:8<d:=by omega
       subst q4;clear p1 p2 f e b;go_wp2_with fail
       rw [<-hd];go_wp2_with fail
       go_ret2
       exact Ap rfl a
     ·rw [if_neg p2] at hz
      have q3:¬z < -922337203685477580:=by omega
      have q4:¬(z=-922337203685477580/\8<d):=by omega
      replace hz:=Hd hz;replace q4:=Hd q4;have r1:-9223372036854775808<=10 * z - d:=by have:=q4.out;omega
      have r2:10 * z - d<=0:=by omega
      clear p1 p2 f e b;by_cases hze:z=-922337203685477580
      ·have q5:¬8<d:=by have:=q4.out;omega
       subst hze;go_wp2_with fail
       rw [<-hd];go_wp2_with fail
       go_roundw
       case rel=>exact ⟨k+1,_,by omega,hz.out,by go_num,by go_num,by omega,by omega,a⟩
       case measure=>simp [intOf];omega
      ·have m:(z == -922337203685477580)=false:=by simpa using hze
       go_wp2_with fail
       rw [<-hd];go_wp2_with fail
       go_roundw
       case rel=>exact ⟨k+1,_,by omega,hz.out,by go_num,by go_num,by omega,by omega,a⟩
       case measure=>simp [intOf];omega
   ·have j:¬(k:Int)<t.size:=by omega
    rw [List.drop_eq_nil_of_le (by rw [Array.length_toList];show t.size<=k;omega),digs] at hz;subst hz;by_cases hNb:z=-9223372036854775808
    ·subst hNb
     go_wp2_with fail
     go_ret2
     exact Ap rfl a
    ·have l : (z == -9223372036854775808)=false:=by simpa using hNb
     have z3:-z<=9223372036854775807:=by omega
     have z4:-9223372036854775808<=-z:=by omega
     have e1:posD (some z)=some (-z):=by unfold posD;simp only;rw [if_neg (show ¬z=least from hNb)]
     go_wp2_with fail
     go_ret2
     exact F2 rfl a
 ·have f2:((c0.toNat:Int) == 48)=false:=by simpa using fun h=>hz (by omega)
  clear h2 h3 hz
  go_enter Tryz.func91,Tryz.ntmps91
  go_wp2_with fail
  go_loopw [6,7] (fun n i wr=>∃(k:Nat) (z:Int),k<=t.size/\digs (t.data.toList.drop k) z=D/\n=.int .i64 z/\i=.int .i64 k/\-9223372036854775808<=z/\z<=0/\Below w.heap.size w wr) (fun _ i _=>t.size - (intOf i).toNat)
  case atStart=>exact ⟨0,0,Nat.zero_le _,hd.out,rfl,rfl,by omega,by omega,Below.refl _ _⟩
  case round=>
   obtain ⟨k,z,hk,hz,rfl,rfl,z1,z2,a⟩:=hrel;clear hd;by_cases hlt:k<t.size
   ·obtain ⟨c,hc⟩:∃c:UInt8,t[k]'hlt=c:=⟨_,rfl⟩
    have b:t.data.toList[k]?=some c:=by rw [Lib.data_getElem? t k hlt,hc]
    obtain ⟨e,f⟩:=List.getElem?_eq_some_iff.1 b;rw [List.drop_eq_getElem_cons e,f,digs] at hz;have j:(k:Int)<t.size:=by omega
    by_cases p1:(c.toNat:Int) - 48<0\/9<(c.toNat:Int) - 48
    ·rw [if_pos p1] at hz
     subst hz;obtain ⟨d,hd⟩:∃d,d=(c.toNat:Int) - 48:=⟨_,rfl⟩;have g:c.toNat<256:=c.toNat_lt;rw [<-hd] at p1;have q0:-48<=d/\d<=207:=by omega
     by_cases q1:d<0
     ·clear p1 f e b
      go_wp2_with fail
      rw [<-hd];go_wp2_with fail
      go_ret2
      exact Ap rfl a
     ·have q2:9<d:=by omega
      clear p1 f e b;go_wp2_with fail
      rw [<-hd];go_wp2_with fail
      go_ret2
      exact Ap rfl a
    ·rw [if_neg p1] at hz
     obtain ⟨d,hd⟩:∃d,d=(c.toNat:Int) - 48:=⟨_,rfl⟩;have g:c.toNat<256:=c.toNat_lt;rw [<-hd] at hz p1;have q1:¬d<0:=by omega
     have q2:¬9<d:=by omega
     by_cases p2:z < -922337203685477580\/z=-922337203685477580/\8<d
     ·rw [if_pos p2] at hz
      subst hz;by_cases q3:z < -922337203685477580
      ·clear p1 p2 f e b
       go_wp2_with fail
       rw [<-hd];go_wp2_with fail
       go_ret2
       exact Ap rfl a
      ·have q4:z=-922337203685477580:=by omega
       have q5:8<d:=by omega
       subst q4;clear p1 p2 f e b;go_wp2_with fail
       rw [<-hd];go_wp2_with fail
       go_ret2
       exact Ap rfl a
     ·rw [if_neg p2] at hz
      have q3:¬z < -922337203685477580:=by omega
      have q4:¬(z=-922337203685477580/\8<d):=by omega
      replace hz:=Hd hz;replace q4:=Hd q4;have r1:-9223372036854775808<=10 * z - d:=by have:=q4.out;omega
      have r2:10 * z - d<=0:=by omega
      clear p1 p2 f e b;by_cases hze:z=-922337203685477580
      ·have q5:¬8<d:=by have:=q4.out;omega
       subst hze;go_wp2_with fail
       rw [<-hd];go_wp2_with fail
       go_roundw
       case rel=>exact ⟨k+1,_,by omega,hz.out,by go_num,by go_num,by omega,by omega,a⟩
       case measure=>simp [intOf];omega
      ·have m:(z == -922337203685477580)=false:=by simpa using hze
       go_wp2_with fail
       rw [<-hd];go_wp2_with fail
       go_roundw
       case rel=>exact ⟨k+1,_,by omega,hz.out,by go_num,by go_num,by omega,by omega,a⟩
       case measure=>simp [intOf];omega
   ·have j:¬(k:Int)<t.size:=by omega
    rw [List.drop_eq_nil_of_le (by rw [Array.length_toList];show t.size<=k;omega),digs] at hz;subst hz;by_cases hNb:z=-9223372036854775808
    ·subst hNb
     go_wp2_with fail
     go_ret2
     exact Ap rfl a
    ·have l : (z == -9223372036854775808)=false:=by simpa using hNb
     have z3:-z<=9223372036854775807:=by omega
     have z4:-9223372036854775808<=-z:=by omega
     have e1:posD (some z)=some (-z):=by unfold posD;simp only;rw [if_neg (show ¬z=least from hNb)]
     go_wp2_with fail
     go_ret2
     exact F2 rfl a
theorem parse01_loopM (s t:ByteArray) (h9:1<s.size) (hs:(s[0]'(by omega)).toNat=45) (ht:s.extract 1 s.size=t) (h0:0<t.size) (h1:t.size<=19) (h3:(t[0]'h0).toNat≠48) (D:Option Int) (hd:digs t.data.toList 0=D) (w:World) :
  Calls Tryz.prog 91 #[.string s] w (NumOr D 11 w):=by
 obtain ⟨c0,hc0⟩:∃c:UInt8,t[0]'h0=c:=⟨_,rfl⟩;obtain ⟨c1,hc1⟩:∃c:UInt8,s[0]'(by omega)=c:=⟨_,rfl⟩;rw [hc0] at h3;rw [hc1] at hs;have f1:((c1.toNat:Int) == 45)=true:=by simpa using by omega
 have h9i:(0:Int)<s.size:=by omega
 have h9j:(1:Int)<=s.size:=by omega
 have h0i:(0:Int)<t.size:=by omega
 have h0z:((t.size:Int) == 0)=false:=beq_eq_false_iff_ne.2 (by omega);have h1i:¬(19:Int)<t.size:=by omega
 have f2:((c0.toNat:Int) == 48)=false:=by simpa using fun h=>h3 (by omega)
 replace hd:=Hd hd;clear h3
 go_enter Tryz.func91,Tryz.ntmps91
 go_wp2_with fail
 go_loopw [6,7] (fun n i wr=>∃(k:Nat) (z:Int),k<=t.size/\digs (t.data.toList.drop k) z=D/\n=.int .i64 z/\i=.int .i64 k/\-9223372036854775808<=z/\z<=0/\Below w.heap.size w wr) (fun _ i _=>t.size - (intOf i).toNat)
 case atStart=>exact ⟨0,0,Nat.zero_le _,hd.out,rfl,rfl,by omega,by omega,Below.refl _ _⟩
 case round=>
  obtain ⟨k,z,hk,hz,rfl,rfl,z1,z2,a⟩:=hrel;clear hd;by_cases hlt:k<t.size
  ·obtain ⟨c,hc⟩:∃c:UInt8,t[k]'hlt=c:=⟨_,rfl⟩
   have b:t.data.toList[k]?=some c:=by rw [Lib.data_getElem? t k hlt,hc]
   obtain ⟨e,f⟩:=List.getElem?_eq_some_iff.1 b;rw [List.drop_eq_getElem_cons e,f,digs] at hz;have j:(k:Int)<t.size:=by omega
   by_cases p1:(c.toNat:Int) - 48<0\/9<(c.toNat:Int) - 48
   ·rw [if_pos p1] at hz
    subst hz;obtain ⟨d,hd⟩:∃d,d=(c.toNat:Int) - 48:=⟨_,rfl⟩;have g:c.toNat<256:=c.toNat_lt;rw [<-hd] at p1;have q0:-48<=d/\d<=207:=by omega
    by_cases q1:d<0
    ·clear p1 f e b
     go_wp2_with fail
     rw [<-hd];go_wp2_with fail
     go_ret2
     exact Ap rfl a
    ·have q2:9<d:=by omega
     clear p1 f e b;go_wp2_with fail
     rw [<-hd];go_wp2_with fail
     go_ret2
     exact Ap rfl a
   ·rw [if_neg p1] at hz
    obtain ⟨d,hd⟩:∃d,d=(c.toNat:Int) - 48:=⟨_,rfl⟩;have g:c.toNat<256:=c.toNat_lt;rw [<-hd] at hz p1;have q1:¬d<0:=by omega
    have q2:¬9<d:=by omega
    by_cases p2:z < -922337203685477580\/z=-922337203685477580/\8<d
    ·rw [if_pos p2] at hz
     subst hz;by_cases q3:z < -922337203685477580
     ·clear p1 p2 f e b
      go_wp2_with fail
      rw [<-hd];go_wp2_with fail
      go_ret2
      exact Ap rfl a
     ·have q4:z=-922337203685477580:=by omega
      have q5:8<d:=by omega
      subst q4;clear p1 p2 f e b;go_wp2_with fail
      rw [<-hd];go_wp2_with fail
      go_ret2
      exact Ap rfl a
    ·rw [if_neg p2] at hz
     have q3:¬z < -922337203685477580:=by omega
     have q4:¬(z=-922337203685477580/\8<d):=by omega
     replace hz:=Hd hz;replace q4:=Hd q4;have r1:-9223372036854775808<=10 * z - d:=by have:=q4.out;omega
     have r2:10 * z - d<=0:=by omega
     clear p1 p2 f e b;by_cases hze:z=-922337203685477580
     ·have q5:¬8<d:=by have:=q4.out;omega
      subst hze;go_wp2_with fail
      rw [<-hd];go_wp2_with fail
      go_roundw
      case rel=>exact ⟨k+1,_,by omega,hz.out,by go_num,by go_num,by omega,by omega,a⟩
      case measure=>simp [intOf];omega
     ·have hzb:(z == -922337203685477580)=false:=by simpa using hze
      go_wp2_with fail
      rw [<-hd];go_wp2_with fail
      go_roundw
      case rel=>exact ⟨k+1,_,by omega,hz.out,by go_num,by go_num,by omega,by omega,a⟩
      case measure=>simp [intOf];omega
  ·have j:¬(k:Int)<t.size:=by omega
   rw [List.drop_eq_nil_of_le (by rw [Array.length_toList];show t.size<=k;omega),digs] at hz;subst hz;go_wp2_with fail
   go_ret2
   exact F2 rfl a
theorem parse01_bad0 (w:World):Calls Tryz.prog 91 #[.string ⟨#[]⟩] w (NumOr none 11 w):=by
 go_enter Tryz.func91,Tryz.ntmps91
 go_wp2_with fail
 go_ret2
 exact Ap rfl (Below.refl _ _)
theorem parse01_badN (t:ByteArray) (h0:0<t.size) (hm:t.size<=281474976710656) (h2:(t[0]'h0).toNat≠45) (h3:19<t.size\/(t[0]'h0).toNat=48/\1<t.size) (w:World) :
  Calls Tryz.prog 91 #[.string t] w (NumOr none 11 w):=by
 obtain ⟨c0,hc0⟩:∃c:UInt8,t[0]'h0=c:=⟨_,rfl⟩;rw [hc0] at h2 h3;have f1:((c0.toNat:Int) == 45)=false:=by simpa using fun h=>h2 (by omega)
 have h0i:(0:Int)<t.size:=by omega
 have h0z:((t.size:Int) == 0)=false:=beq_eq_false_iff_ne.2 (by omega);by_cases h1:19<t.size
 ·have a:(19:Int)<t.size:=by omega
  clear h3 h2
  go_enter Tryz.func91,Tryz.ntmps91
  go_wp2_with fail
  go_ret2
  exact Ap rfl (Below.refl _ _)
 ·have a:¬(19:Int)<t.size:=by omega
  have h4:c0.toNat=48/\1<t.size:=by omega
  have f2:((c0.toNat:Int) == 48)=true:=by simpa using by omega
  have h4i:(1:Int)<t.size:=by omega
  clear h3 h2 h4
  go_enter Tryz.func91,Tryz.ntmps91
  go_wp2_with fail
  go_ret2
  exact Ap rfl (Below.refl _ _)
theorem parse01_badM (s t:ByteArray) (h9:0<s.size) (hm:s.size<=281474976710656) (hs:(s[0]'h9).toNat=45) (ht:s.extract 1 s.size=t) (h3:t.size=0\/19<t.size\/∃h0:0<t.size,(t[0]'h0).toNat=48) (w:World) :
  Calls Tryz.prog 91 #[.string s] w (NumOr none 11 w):=by
 obtain ⟨c1,hc1⟩:∃c:UInt8,s[0]'h9=c:=⟨_,rfl⟩;rw [hc1] at hs;have f1:((c1.toNat:Int) == 45)=true:=by simpa using by omega
 have h9i:(0:Int)<s.size:=by omega
 have h9j:(1:Int)<=s.size:=by omega
 by_cases hz:t.size=0
 ·have a:((t.size:Int) == 0)=true:=by rw [hz];rfl
  clear h3 hz
  go_enter Tryz.func91,Tryz.ntmps91
  go_wp2_with fail
  go_ret2
  exact Ap rfl (Below.refl _ _)
 have h0i:(0:Int)<t.size:=by omega
 have a:((t.size:Int) == 0)=false:=beq_eq_false_iff_ne.2 (by omega);by_cases h1:19<t.size
 ·have b:(19:Int)<t.size:=by omega
  clear h3 hz
  go_enter Tryz.func91,Tryz.ntmps91
  go_wp2_with fail
  go_ret2
  exact Ap rfl (Below.refl _ _)
 have b:¬(19:Int)<t.size:=by omega
 obtain ⟨h0,h4⟩:∃h0:0<t.size,(t[0]'h0).toNat=48:=by
  rcases h3 with h | h | h
  ·exact absurd h hz
  ·exact absurd h h1
  ·exact h
 obtain ⟨c0,hc0⟩:∃c:UInt8,t[0]'h0=c:=⟨_,rfl⟩;rw [hc0] at h4;have f2:((c0.toNat:Int) == 48)=true:=by simpa using by omega
 clear h3 hz h4;by_cases h5:1<t.size
 ·have d:(1:Int)<t.size:=by omega
  go_enter Tryz.func91,Tryz.ntmps91
  go_wp2_with fail
  go_ret2
  exact Ap rfl (Below.refl _ _)
 ·have d:¬(1:Int)<t.size:=by omega
  go_enter Tryz.func91,Tryz.ntmps91
  go_wp2_with fail
  go_ret2
  exact Ap rfl (Below.refl _ _)
theorem head_data (t:ByteArray) (h:0<t.size):t.data.toList.head?=some (t[0]'h):=by
 rw [List.head?_eq_getElem?];exact Lib.data_getElem? t 0 h
theorem parse01_any (s:ByteArray) (hm:s.size<=281474976710656) (w:World):Calls Tryz.prog 91 #[.string s] w (NumOr (wP s.data.toList) 11 w):=by
 rw [<-refP_wP];have b:s.data.toList.length=s.size:=by rw [Array.length_toList];rfl
 rcases Nat.eq_zero_or_pos s.size with h | h
 ·obtain rfl:s=⟨#[]⟩:=by
   cases s with
   | mk d=>cases d with
    | mk l=>cases l with
     | nil=>rfl
     | cons c r=>simp [ByteArray.size] at h
  exact parse01_bad0 w
 ·have hh:=head_data s h
  have j:(45:UInt8).toNat=45:=rfl;have i:(48:UInt8).toNat=48:=rfl;by_cases h45:(s[0]'h).toNat=45
  ·have f : s.data.toList.head?=some 45:=by rw [hh];exact congrArg some (UInt8.toNat_inj.1 (h45.trans j.symm))
   unfold refP;rw [if_pos f];have g:(s.extract 1 s.size).data.toList=s.data.toList.tail:=by
    rw [ByteArray.data_extract,Array.toList_extract,List.extract_eq_take_drop,List.drop_one];rw [List.take_of_length_le];rw [List.length_tail,b];exact Nat.le_refl _
   have k:(s.extract 1 s.size).size=s.size - 1:=by rw [ByteArray.size_extract];omega
   have a:s.data.toList.tail.length=(s.extract 1 s.size).size:=by rw [<-g,Array.length_toList];rfl
   obtain ⟨t,ht⟩:∃t,s.extract 1 s.size=t:=⟨_,rfl⟩;rw [ht] at g k a;rw [<-g] at a ⊢;unfold refM;by_cases hc:t.data.toList.length=0\/19<t.data.toList.length\/t.data.toList.head?=some 48
   ·rw [if_pos hc]
    rw [a] at hc;refine parse01_badM s t h hm h45 ht ?_ w;rcases hc with hc | hc | hc
    ·exact Or.inl hc
    ·exact Or.inr (Or.inl hc)
    ·by_cases h0:0<t.size
     ·rw [head_data t h0] at hc
      simp only [Option.some.injEq] at hc;exact Or.inr (Or.inr ⟨h0,by rw [hc];rfl⟩)
     ·exact Or.inl (by omega)
   ·rw [if_neg hc]
    rw [a] at hc;have h0:0<t.size:=by rcases Nat.eq_zero_or_pos t.size with e | e;exact absurd (Or.inl e) hc;exact e
    refine parse01_loopM s t (by omega) h45 ht h0 (Nat.le_of_not_lt fun e=>hc (Or.inr (Or.inl e))) (fun e=>hc (Or.inr (Or.inr ?_))) _ rfl w;rw [head_data t h0];exact congrArg some (UInt8.toNat_inj.1 (e.trans i.symm))
  ·have f : ¬s.data.toList.head?=some 45:=by rw [hh];intro e;simp only [Option.some.injEq] at e;rw [e] at h45;exact h45 rfl
   unfold refP;rw [if_neg f];unfold refN;by_cases hc:s.data.toList.length=0\/19<s.data.toList.length\/s.data.toList.head?=some 48/\1<s.data.toList.length
   ·rw [if_pos hc]
    rw [b,hh] at hc;refine parse01_badN s h hm h45 ?_ w;rcases hc with hc | hc | ⟨hc,m⟩
    ·omega
    ·exact Or.inl hc
    ·simp only [Option.some.injEq] at hc
     exact Or.inr ⟨by rw [hc];rfl,m⟩
   ·rw [if_neg hc]
    rw [b,hh] at hc;refine parse01_loopN s h (Nat.le_of_not_lt fun e=>hc (Or.inr (Or.inl e))) h45 (fun e=>?_) _ rfl w;rcases Nat.lt_or_ge 1 s.size with h1 | h1
    ·exact absurd (Or.inr (Or.inr ⟨congrArg some (UInt8.toNat_inj.1 (e.trans i.symm)),h1⟩)) hc
    ·omega
