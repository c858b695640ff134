/- The reader, plain: what is read stays read with more bytes behind; what is no frame stays none. -/
import Derived.Test.YtagkgfniihiinaaGreatDoorJ29
import Derived.Test.YtagkgfniihiinaaGreatDoorR5B
import Derived.Test.YtagkgfniihiinaaGreatDoorNums
import Derived.Test.YtagkgfniihiinaaGreatDoorJ50
import Derived.Test.YtagkgfniihiinaaGreatDoorProg
import Derived.Lib.AppendStr
import Derived.Lib.SmallJoins
import Derived.Lib.ItoaLen
import Derived.Lib.ItoaNum
import Derived.Test.YtagkgfniihiinaaGreatDoorJ86
import Derived.Test.YtagkgfniihiinaaGreatDoorJ43
import Derived.Deep.AppendLies
import Derived.Test.YtagkgfniihiinaaGreatDoorJ78
import Derived.Test.YtagkgfniihiinaaGreatDoorTxtQ
import Derived.Test.YtagkgfniihiinaaGreatDoorJ51
import Derived.Test.YtagkgfniihiinaaGreatDoorJ45
import Derived.Test.YtagkgfniihiinaaGreatDoorJ69
import Derived.Test.YtagkgfniihiinaaGreatDoorJ30
import Derived.Test.YtagkgfniihiinaaGreatDoorJ64
set_option linter.all false
namespace Go.Proofs.YtagkgfniihiinaaGreatDoor
open Go.RowKit
theorem scan_len {rp:Rp} (hrp:∀t r,rp t=some r->r<18446744073709551616) (lv:Nat) (h8:lv<=8) (many:Nat) (L:List UInt8) (v:V) (u m:Nat) (h:At rp lv many L=.got (v,u,m)):u<=L.length:=(Dr hrp lv h8 many L v u m h).len
theorem headL_len {rp:Rp} {L:List UInt8} {kd n u:Nat} (h:A1 rp L=.list kd n u):u<=L.length:=(head_listG h).2.2.2
theorem F3:∀{t:List UInt8} {c:UInt8} (z:List UInt8),0<=Lib.indexByte t c->Lib.indexByte (t++z) c=Lib.indexByte t c
 | [],c,z,h=>by
   have h:(0:Int)<=-1:=h;omega
 | b :: t,c,z,h=>by
   rw [List.cons_append];unfold Lib.indexByte at h ⊢;by_cases hb:(b == c)=true
   · rw [if_pos hb,if_pos hb]
   · rw [if_neg hb] at h ⊢
     rw [if_neg hb];have hg:=Lib.indexByte_ge t c;split at h
     · exact absurd h (by decide)
     · rename_i h1
       have h1' : Lib.indexByte t c≠-1:=by simpa using h1
       have ih:=F3 (t:=t) (c:=c) z (by omega);rw [ih]
theorem index_not:∀{t:List UInt8} {c:UInt8},Lib.indexByte t c<0->c ∉ t
 | [],_,_=>by simp
 | b :: t,c,h=>by
   unfold Lib.indexByte at h;by_cases hb:(b == c)=true
   · rw [if_pos hb] at h;exact absurd h (by decide)
   · rw [if_neg hb] at h
     have hg:=Lib.indexByte_ge t c;split at h
     · rename_i h1
       have h1' : Lib.indexByte t c=-1:=by simpa using h1
       have:=index_not (t:=t) (c:=c) (by omega);intro hm;rcases List.mem_cons.1 hm with e | hm
       · exact hb (by rw [e];simp)
       · exact this hm
     · omega
theorem index_more {t z:List UInt8} {c:UInt8} (h:Lib.indexByte t c<0):Lib.indexByte (t++z) c=-1\/(t.length:Int)<=Lib.indexByte (t++z) c:=Fh z (index_not h)
theorem Fl:∀(t:List UInt8) (c:UInt8),Lib.indexByte t c<t.length
 | [],c=>by
   show (-1:Int)<0;decide
 | b :: t,c=>by
   unfold Lib.indexByte;have:=Fl t c;rw [List.length_cons];split
   · omega
   · split<;>omega
theorem lineS_ext (L z:List UInt8):(∀p,Aw L=.got p->Aw (L++z)=.got p)/\(Aw L=.stop 51->Aw (L++z)=.stop 51)/\(∀q,Aw L=.stop q->q=0\/q=51):=by
 obtain ⟨z', hz'⟩:∃z', (L++z).take 4200=L.take 4200++z' := ⟨z.take (4200 - L.length),by rw [List.take_append]⟩;obtain ⟨hz0,hl⟩:((L.take 4200).length=4200->z' = [])/\(L.take 4200++z').length<=4200:=by
   have h1:(L.take 4200++z').length<=4200:=by rw [<-hz', List.length_take];omega
   refine ⟨fun h=>?_,h1⟩;rw [List.length_append,h] at h1;exact List.length_eq_zero_iff.1 (by omega)
 unfold Aw;rw [hz'];generalize L.take 4200=R at hz0 hl ⊢;dsimp only;have n1:=@F3 R 10 z';have n2:=@index_more R z' 10;have b1:=@F3 R 13 z';have b2:=@index_more R z' 13;have n3:=Fl R 10;have b3:=Fl R 13;have n4:=Lib.indexByte_ge R 10;have n5:=Fl (R++z') 10;have b4:=Lib.indexByte_ge R 13;rw [List.length_append] at hl n5;have hlz:(R++z').length=R.length+z'.length:=List.length_append;have hz1:R.length=4200->z'.length=0:=fun h=>by rw [hz0 h];rfl
 have htk:∀k,k<=R.length->(R++z').take k=R.take k:=fun k h=>List.take_append_of_le_length h;generalize Lib.indexByte (R++z') 10=n' at *;generalize Lib.indexByte (R++z') 13=b' at *;generalize Lib.indexByte R 10=n at *;generalize Lib.indexByte R 13=b at *;rw [hlz];refine ⟨fun p hp=>?_,fun hp=>?_,fun q hp=>?_⟩
 · split at hp
   · cases hp
   · rename_i hc
     split at hp
     · cases hp
     · rename_i hn
       have e1:n' = n:=n1 (by omega);have hb:b=n - 1:=by omega
       have e2:b' = b:=b1 (by omega);rw [e1,e2,if_neg (by omega),if_neg hn,htk _ (by omega)];exact hp
 · split at hp
   · rename_i hc
     rw [if_pos];rcases hc with hc | hc | hc | hc
     · left;rw [n1 (by omega)];exact hc
     · right;left
       have e1:n' = n:=n1 (by omega);rcases Int.lt_or_le b 0 with hb | hb
       · have:=b2 hb
         omega
       · have:=b1 hb
         omega
     · have e2:b' = b:=b1 (by omega)
       have:=n2 hc.1;omega
     · have h0:=hz1 hc.2
       have:=n2 hc.1;omega
   · split at hp
     · simp at hp
     · cases hp
 · split at hp
   · simp only [Out.stop.injEq] at hp;omega
   · split at hp
     · simp only [Out.stop.injEq] at hp;omega
     · cases hp
theorem longS_ext (L z:List UInt8) (k:Nat):(∀p,Bw L k=.got p->Bw (L++z) k=.got p)/\(Bw L k=.stop 51->Bw (L++z) k=.stop 51)/\(∀q,Bw L k=.stop q->q=0\/q=51):=by
 have g1:k<L.length->L.getD k 0=(L++z).getD k 0:=fun h=>getD_app h;have g2:k+1<L.length->L.getD (k+1) 0=(L++z).getD (k+1) 0:=fun h=>getD_app h;have hlz:(L++z).length=L.length+z.length:=List.length_append;have ht:k<=L.length->(L++z).take k=L.take k:=fun h=>List.take_append_of_le_length h;unfold Bw;rw [hlz];generalize (L++z).getD k 0=a' at *;generalize (L++z).getD (k+1) 0=d' at *;generalize L.getD k 0=a at *;generalize L.getD (k+1) 0=d at *;refine ⟨fun p hp=>?_,fun hp=>?_,fun q hp=>?_⟩
 · split at hp
   · cases hp
   · rename_i hc
     split at hp
     · cases hp
     · rename_i h2
       rw [<-g1 (by omega),<-g2 (by omega),if_neg,if_neg (by omega),ht (by omega)]
       · exact hp
       · rintro (⟨_,h⟩ | ⟨_,h⟩)
         · exact hc (.inl ⟨by omega,h⟩)
         · exact hc (.inr ⟨by omega,h⟩)
 · split at hp
   · rename_i hc
     rw [if_pos];rcases hc with ⟨h1,h2⟩ | ⟨h1,h2⟩
     · exact .inl ⟨by omega,by rw [<-g1 h1];exact h2⟩
     · exact .inr ⟨by omega,by rw [<-g2 h1];exact h2⟩
   · split at hp
     · simp at hp
     · cases hp
 · split at hp
   · simp only [Out.stop.injEq] at hp;omega
   · split at hp
     · simp only [Out.stop.injEq] at hp;omega
     · cases hp
theorem headS_ext {rp:Rp} (L z:List UInt8):((∀q,A1 rp L=.stop q->q=0\/q=51))/\(A1 rp L≠.stop 0->A1 rp (L++z)=A1 rp L):=by
 cases L with
 | nil=>exact ⟨fun q h=>by unfold A1 at h;simp only [Head.stop.injEq] at h;omega,fun h=>absurd rfl h⟩
 | cons c L=>
   rw [List.cons_append];unfold A1;by_cases hk0:Ac c=0
   · simp only [if_pos hk0]
     exact ⟨fun q h=>by simp only [Head.stop.injEq] at h;omega,fun _=>trivial⟩
   simp only [if_neg hk0];obtain ⟨l1,l2,l3⟩:=lineS_ext L z;cases hl:Aw L with
   | stop e=>
     dsimp only;have he:=l3 e hl;refine ⟨fun q h=>by simp only [Head.stop.injEq] at h;omega,fun h=>?_⟩;have:e=51:=by
       rcases he with rfl | rfl
       · exact absurd rfl h
       · rfl
     subst this;rw [l2 hl]
   | got p=>
     obtain ⟨t,u⟩:=p;rw [l1 _ hl];dsimp only;obtain ⟨u1,u2,u3⟩:=A7 hl;by_cases hm:t=[45,49]/\(Ac c=4\/Ac c=5)
     · simp only [if_pos hm]
       exact ⟨fun q h=>(by cases h),fun _=>trivial⟩
     simp only [if_neg hm];by_cases hk:Ac c=4\/Ac c=10\/Ac c=11
     · simp only [if_pos hk]
       cases hn:numS t 4096 with
       | none=>exact ⟨fun q h=>by simp only [Head.stop.injEq] at h;omega,fun _=>rfl⟩
       | some n=>
         dsimp only;rw [List.drop_append_of_le_length u1];obtain ⟨s1,s2,s3⟩:=longS_ext (L.drop u) z n;cases hs:Bw (L.drop u) n with
         | stop e=>
           dsimp only;have he:=s3 e hs;refine ⟨fun q h=>by simp only [Head.stop.injEq] at h;omega,fun h=>?_⟩;have:e=51:=by
             rcases he with rfl | rfl
             · exact absurd rfl h
             · rfl
           subst this;rw [s2 hs]
         | got s=>
           rw [s1 _ hs];dsimp only;refine ⟨fun q h=>?_,fun _=>rfl⟩;split at h
           · cases h
           · simp only [Head.stop.injEq] at h;omega
     simp only [if_neg hk];refine ⟨fun q h=>?_,fun _=>trivial⟩
     repeat' (split at h)
     all_goals first | (simp only [Head.stop.injEq] at h;omega) | (cases h)
theorem scanN_ext {f:Nat->List UInt8->Out (V × Nat × Nat)} (hf:∀m L z,(∀p,f m L=.got p->f m (L++z)=.got p)/\(f m L=.stop 51->f m (L++z)=.stop 51)/\(∀q,f m L=.stop q->q=0\/q=51)/\(∀v u m', f m L=.got (v,u,m')->u<=L.length)) :
   ∀(n m:Nat) (L z:List UInt8),(∀p,Ba f n m L=.got p->Ba f n m (L++z)=.got p)/\(Ba f n m L=.stop 51->Ba f n m (L++z)=.stop 51)/\(∀q,Ba f n m L=.stop q->q=0\/q=51)
 | 0,m,L,z=>⟨fun p h=>h,fun h=>h,fun q h=>by unfold Ba at h;cases h⟩
 | n+1,m,L,z=>by
   unfold Ba;obtain ⟨f1,f2,f3,f4⟩:=hf m L z;cases h:f m L with
   | stop e=>
     dsimp only;refine ⟨fun p hp=>(by cases hp),fun hp=>?_,fun q hp=>?_⟩
     · simp only [Out.stop.injEq] at hp
       subst hp;rw [f2 h]
     · simp only [Out.stop.injEq] at hp
       have:=f3 _ h;omega
   | got p=>
     obtain ⟨v,u,m'⟩:=p;rw [f1 _ h];dsimp only;rw [List.drop_append_of_le_length (f4 _ _ _ h)];obtain ⟨k1,k2,k3⟩:=scanN_ext hf n m' (L.drop u) z;cases h2:Ba f n m' (L.drop u) with
     | stop e=>
       dsimp only;refine ⟨fun p hp=>(by cases hp),fun hp=>?_,fun q hp=>?_⟩
       · simp only [Out.stop.injEq] at hp
         subst hp;rw [k2 h2]
       · simp only [Out.stop.injEq] at hp
         have:=k3 _ h2;omega
     | got p2=>
       rw [k1 _ h2];exact ⟨fun p hp=>hp,fun hp=>hp,fun q hp=>(by cases hp)⟩
theorem Dx {rp:Rp} (hrp:∀t r,rp t=some r->r<18446744073709551616):∀(lv:Nat),lv<=8->∀(m:Nat) (L z:List UInt8),(∀p,At rp lv m L=.got p->At rp lv m (L++z)=.got p)/\(At rp lv m L=.stop 51->At rp lv m (L++z)=.stop 51)/\(∀q,At rp lv m L=.stop q->q=0\/q=51)
 | 0,_,m,L,z=>by
   obtain ⟨h1,h2⟩:=headS_ext (rp:=rp) L z;unfold At;cases h:A1 rp L with
   | stop e=>
     dsimp only;have he:=h1 e h;refine ⟨fun p hp=>(by cases hp),fun hp=>?_,fun q hp=>?_⟩
     · simp only [Out.stop.injEq] at hp
       subst hp;rw [h2 (by rw [h];simp),h]
     · simp only [Out.stop.injEq] at hp
       omega
   | leaf v u=>
     rw [h2 (by rw [h];simp),h];exact ⟨fun p hp=>hp,fun hp=>hp,fun q hp=>(by cases hp)⟩
   | list kd n u=>
     rw [h2 (by rw [h];simp),h];exact ⟨fun p hp=>hp,fun hp=>hp,fun q hp=>by simp only [Out.stop.injEq] at hp;omega⟩
 | lv+1,hlv,m,L,z=>by
   obtain ⟨h1,h2⟩:=headS_ext (rp:=rp) L z;unfold At;cases h:A1 rp L with
   | stop e=>
     dsimp only;have he:=h1 e h;refine ⟨fun p hp=>(by cases hp),fun hp=>?_,fun q hp=>?_⟩
     · simp only [Out.stop.injEq] at hp
       subst hp;rw [h2 (by rw [h];simp),h]
     · simp only [Out.stop.injEq] at hp
       omega
   | leaf v u=>
     rw [h2 (by rw [h];simp),h];exact ⟨fun p hp=>hp,fun hp=>hp,fun q hp=>(by cases hp)⟩
   | list kd n u=>
     rw [h2 (by rw [h];simp),h];dsimp only;by_cases hc:1000<m+n\/(kd=14/\(n=0\/lv<7))
     · simp only [if_pos hc]
       exact ⟨fun p hp=>hp,fun _=>trivial,fun q hp=>by simp only [Out.stop.injEq] at hp;omega⟩
     · simp only [if_neg hc]
       rw [List.drop_append_of_le_length (headL_len h)];obtain ⟨k1,k2,k3⟩:=scanN_ext (f:=At rp lv) (fun m L z=>by
         obtain ⟨a1,a2,a3⟩:=Dx hrp lv (by omega) m L z;exact ⟨a1,a2,a3,fun v u m' h=>scan_len hrp lv (by omega) m L v u m' h⟩) n (m+n) (L.drop u) z
       cases hs:Ba (At rp lv) n (m+n) (L.drop u) with
       | stop e=>
         dsimp only;refine ⟨fun p hp=>(by cases hp),fun hp=>?_,fun q hp=>?_⟩
         · simp only [Out.stop.injEq] at hp
           subst hp;rw [k2 hs]
         · simp only [Out.stop.injEq] at hp
           have:=k3 _ hs;omega
       | got p=>
         rw [k1 _ hs];exact ⟨fun p hp=>hp,fun hp=>hp,fun q hp=>(by cases hp)⟩
inductive AllR (rp:Rp):List UInt8->List V->List UInt8->Nat->Prop
 | bad {L:List UInt8}:At rp 8 1 L=.stop 51->AllR rp L [] [] 51
 | wait {L:List UInt8}:At rp 8 1 L=.stop 0->AllR rp L [] L 0
 | got {L R:List UInt8} {v:V} {u m e:Nat} {l:List V}:At rp 8 1 L=.got (v,u,m)->AllR rp (L.drop u) l R e->AllR rp L (v :: l) R e
theorem AllR.uniq {rp:Rp} {L:List UInt8} {l l' : List V} {R R' : List UInt8} {e e' : Nat} (h:AllR rp L l R e):AllR rp L l' R' e' -> l=l' /\ R=R' /\ e=e' := by
 induction h generalizing l' R' e' with
 | bad h1=>
   intro h;cases h with
   | bad _=>exact ⟨rfl,rfl,rfl⟩
   | wait h2=>rw [h1] at h2;simp at h2
   | got h2 _=>rw [h1] at h2;cases h2
 | wait h1=>
   intro h;cases h with
   | bad h2=>rw [h1] at h2;simp at h2
   | wait _=>exact ⟨rfl,rfl,rfl⟩
   | got h2 _=>rw [h1] at h2;cases h2
 | got h1 _ ih=>
   intro h;cases h with
   | bad h2=>rw [h1] at h2;cases h2
   | wait h2=>rw [h1] at h2;cases h2
   | got h2 h3=>
     rw [h1] at h2;simp only [Out.got.injEq,Prod.mk.injEq] at h2;obtain ⟨rfl,rfl,rfl⟩:=h2;obtain ⟨rfl,rfl,rfl⟩:=ih h3;exact ⟨rfl,rfl,rfl⟩
theorem AllR.bad_ext {rp:Rp} (hrp:∀t r,rp t=some r->r<18446744073709551616) {L R:List UInt8} {l:List V} {e:Nat} (h:AllR rp L l R e):e=51->∀z,AllR rp (L++z) l R 51:=by
 induction h with
 | bad h1=>exact fun _ z=>.bad ((Dx hrp 8 (Nat.le_refl _) 1 _ z).2.1 h1)
 | wait h1=>exact fun he=>absurd he (by decide)
 | got h1 _ ih=>
   intro he z;have hu:=scan_len hrp 8 (Nat.le_refl _) _ _ _ _ _ h1;refine .got ((Dx hrp 8 (Nat.le_refl _) 1 _ z).1 _ h1) ?_;rw [List.drop_append_of_le_length hu];exact ih he z
theorem AllR.wait_ext {rp:Rp} (hrp:∀t r,rp t=some r->r<18446744073709551616) {L R:List UInt8} {l:List V} {e:Nat} (h:AllR rp L l R e):e=0->∀(z:List UInt8) {l' : List V} {R' : List UInt8} {e' : Nat},AllR rp (R++z) l' R' e' -> AllR rp (L++z) (l++l') R' e' := by
 induction h with
 | bad h1=>exact fun he=>absurd he (by decide)
 | wait h1=>exact fun _ z l' R' e' h=>h
 | got h1 _ ih=>
   intro he z l' R' e' h;have hu:=scan_len hrp 8 (Nat.le_refl _) _ _ _ _ _ h1;refine .got ((Dx hrp 8 (Nat.le_refl _) 1 _ z).1 _ h1) ?_;rw [List.drop_append_of_le_length hu];exact ih he z h
end Go.Proofs.YtagkgfniihiinaaGreatDoor
namespace Go.Proofs.YtagkgfniihiinaaGreatDoor
open Go.RowKit Go.Joins
theorem D6 {w w' : World} {b o:Nat} {cs:List Value} (hb:Below w.heap.size w w') (h:w.rangeAt b o cs):w'.rangeAt b o cs:=fun j u hj=>Aa hb _ _ (h j u hj)
def older (B:Nat) (w:World):Addr->Option Value:=fun a=>if a.block<B then w.cell? a else none
end Go.Proofs.YtagkgfniihiinaaGreatDoor
namespace Go.Proofs.YtagkgfniihiinaaGreatDoor
open Go.RowKit
def HeadQ (h:Head) (m:Int) (w:World) (e:Ending) (w' : World):Prop:=match h with
 | .stop q=>StopZ q w e w'
 | .leaf v u=>GotZ v u m w e w'
 | .list _ _ _=>False
theorem longS_cases (L:List UInt8) (k:Nat):(Bw L k=.stop 51/\((k<L.length/\L.getD k 0≠13)\/(k+1<L.length/\L.getD k 0=13/\L.getD (k+1) 0≠10)))\/(Bw L k=.stop 0/\(L.length<=k\/(L.length=k+1/\L.getD k 0=13)))\/(Bw L k=.got (L.take k)/\k+2<=L.length/\L.getD k 0=13/\L.getD (k+1) 0=10):=by
 unfold Bw;generalize L.getD k 0=a;generalize L.getD (k+1) 0=b;split
 · rename_i h
   left;refine ⟨rfl,?_⟩;rcases h with h | ⟨h1,h2⟩
   · exact .inl h
   · by_cases ha:a=13
     · exact .inr ⟨h1,ha,h2⟩
     · exact .inl ⟨by omega,ha⟩
 · rename_i h
   right;have g1:k<L.length->a=13:=fun h1=>Classical.byContradiction fun h2=>h (.inl ⟨h1,h2⟩);have g2:k+1<L.length->b=10:=fun h1=>Classical.byContradiction fun h2=>h (.inr ⟨h1,h2⟩);split
   · left
     refine ⟨rfl,?_⟩;by_cases h3:L.length<=k
     · exact .inl h3
     · exact .inr ⟨by omega,g1 (by omega)⟩
   · right
     exact ⟨rfl,by omega,g1 (by omega),g2 (by omega)⟩
theorem byte_ne {c d:UInt8} {n:Int} (hd:(d.toNat:Int)=n) (h:c≠d):((c.toNat:Int) == n)=false:=by
 rw [beq_eq_false_iff_ne];intro e;exact h (UInt8.toNat_inj.1 (by omega))
theorem byte_nq {c d:UInt8} {n:Int} (hd:(d.toNat:Int)=n) (h:c≠d):((c.toNat:Int) != n)=true:=by
 simp [bne,byte_ne hd h]
theorem Dq {s:ByteArray} {j:Nat} (h:j<s.size):s.data.toList.getD j 0=s[j]'h:=by
 obtain ⟨hj,e⟩:=get_list h;rw [List.getD_eq_getElem?_getD,List.getElem?_eq_getElem hj,<-e];rfl
set_option maxRecDepth 100000 in
set_option maxHeartbeats 6400000 in
theorem scan5_text {w:World} {s:ByteArray} {u:Nat} {t:List UInt8} (h0:0<s.size) (hs:s.size<=1000000) (hk:Ac (s[0]'h0)=4\/Ac (s[0]'h0)=10\/Ac (s[0]'h0)=11) (hl:Aw (s.data.toList.drop 1)=.got (t,u)) (hm:¬(t=[45,49]/\(Ac (s[0]'h0)=4\/Ac (s[0]'h0)=5))) {H:Head} (hH:H=(match numS t 4096 with
      | none=>.stop 51
      | some n=>match Bw ((s.data.toList.drop 1).drop u) n with
        | .stop e=>.stop e
        | .got x=>if okV (Ao (Ac (s[0]'h0)) ⟨x.toArray⟩ 0 0 false)=true then .leaf (Ao (Ac (s[0]'h0)) ⟨x.toArray⟩ 0 0 false) (1+u+(n+2)) else .stop 51)) (d m:Int) :
   Calls Tryz.prog 47 #[.string s,.int .i64 d,.int .i64 m] w (HeadQ H m w):=by
 have hl0:=hl
 have hU9:1+u<=s.size:=by
   have h1:=(A7 hl).1;rw [List.length_drop,Array.length_toList] at h1;have h2:s.data.size=s.size:=rfl;omega
 obtain ⟨T2,hT2'⟩:∃T2,T2=s.extract (u+1) s.size:=⟨_,rfl⟩
 have hT2l:T2.data.toList=(s.data.toList.drop 1).drop u:=by
   rw [hT2', List.drop_drop,Ei];congr 1;omega
 have hT2z:T2.size<=1000000:=by rw [hT2', ByteArray.size_extract];omega
 rw [<-hT2l] at hH
 have hlen:T2.data.toList.length=T2.size:=by rw [Array.length_toList];rfl
 have hUz:((u+1:Nat):Int)<=(s.size:Int):=by omega
 rw [show (1+u)=u+1 by omega] at hH
 obtain ⟨c,hc⟩:∃c,s[0]'h0=c:=⟨_,rfl⟩
 rw [hc] at hk
 have hkc:=C1 c
 have h0i:(0:Int)<(s.size:Int):=by omega
 have h1i:(1:Int)<=(s.size:Int):=by omega
 obtain ⟨j1,j3,j4⟩:=Bl h0
 obtain ⟨T,hT⟩:∃T,T=s.extract 1 s.size:=⟨_,rfl⟩
 have hTs:T.size<=1000000:=by rw [hT,ByteArray.size_extract];omega
 have hln:=Dc hTs
 have hTl:T.data.toList=s.data.toList.drop 1:=by rw [hT];exact C9
 have hul:=(A7 hl).1
 rw [List.length_drop,Array.length_toList] at hul
 have hul9:s.data.size=s.size:=rfl
 obtain ⟨U,hU⟩:∃U,U=u+1:=⟨_,rfl⟩
 have hu1:IntKind.i64.wrap ((u:Int)+1)=(U:Int):=by rw [IntWalk.i64_in _ (by omega)];omega
 try rw [<-hU]
 replace hU:=Hd hU
 rw [hTl,hl] at hln
 unfold lineA at hln
 have hT2:=hT.symm
 dsimp only at hln
 replace hln:=Hd hln
 replace hkc:=Hd hkc
 clear hTl hl hTs hT hul hul9
 rw [<-hU.out] at hT2' hUz hH
 have hT29:=hT2'.symm
 replace hT2' := Hd hT2'
 replace hT2l:=Hd hT2l
 replace hlen:=Hd hlen
 clear hU9
 rw [hc] at hm hH
 obtain ⟨k,hkk⟩:∃k,k=Ac c:=⟨_,rfl⟩
 rw [<-hkk] at hk hkc
 try rw [<-hkk] at hm
 try rw [<-hkk] at hp
 try rw [<-hkk] at hH
 try rw [<-hkk] at hnn
 try rw [<-hkk] at h14
 clear hkk
 obtain ⟨tb,htb⟩:∃tb:ByteArray,tb=⟨t.toArray⟩:=⟨_,rfl⟩
 have htl:tb.data.toList=t:=by rw [htb]
 have htz:tb.size<=1000000:=by
   have h1:=(A7 hl0).2.2;rw [<-htl,Array.length_toList] at h1;have h2:tb.data.size=tb.size:=rfl;omega
 rw [<-htb] at hln
 have hny:((tb.toList == [45,49])=false)\/((tb.toList == [45,49])=true/\((k:Int) == 4)=false/\((k:Int) == 5)=false):=by
   cases h9:(tb.toList == [45,49]) with
   | false=>exact .inl rfl
   | true=>
     refine .inr ⟨rfl,?_⟩;have h8:=eq_of_beq h9;rw [ByteArray.toList_eq,htl] at h8;have h7:¬(k=4\/k=5):=fun e=>hm ⟨h8,e⟩;exact ⟨by rw [beq_eq_false_iff_ne];omega,by rw [beq_eq_false_iff_ne];omega⟩
 clear htb
 replace hny:=Hd hny
 replace hm:=Hd hm
 replace htl:=Hd htl
 replace hl0:=Hd hl0
 try replace hH:=Hd hH
 have hnm:=fun W=>Eb (w:=W) (t:=tb) (most:=4096) htz (by decide)
 rw [htl.out] at hnm
 have hkl:Ak (k:Int)=false:=by unfold Ak;rw [decide_eq_false_iff_not];omega
 replace hnm:=Hd hnm
 have h2:=Two.start w 0 ⟨#[]⟩ 0 0 false
 obtain ⟨W2,hW2⟩:∃W,W=(w.alloc (.cells #[.int .i64 0,.string ⟨#[]⟩,.int .i64 0,.float .f64 0,.bool false,.slice none 0 0] 26)).alloc (.cells #[.int .i64 0,.string ⟨#[]⟩,.int .i64 0,.float .f64 0,.bool false,.slice none 0 0] 26):=⟨_,rfl⟩
 rw [<-hW2] at h2
 replace hW2:=Hd hW2
 replace h2:=Hd h2
 go_enter Tryz.func47,Tryz.ntmps47
 go_upto_region 2 with fail
 rw [<-hW2.out]
 clear hW2
 go_wp2_with fail
 refine (hkc.out _).mono ?_
 rintro e w3 ⟨rfl,hww⟩
 have h3:=h2.out
 rw [<-hww] at h3
 clear h2 hww
 go_wp2_with fail
 refine (hln.out _).mono ?_
 rintro e w3 ⟨rfl,hww⟩
 rw [<-hww] at h3
 clear hww
 replace h3:=Hd h3
 go_upto_region 11 with fail
 go_cut [59] from 51 to 59 (fun s5 wx=>s5=.bool false/\wx=w3)
 case first=>
   rcases hny.out with y1 | ⟨y1,c4,c5⟩
   · go_wp2_with fail
     go_meet
     exact ⟨rfl,rfl⟩
   · go_wp2_with fail
     go_meet
     exact ⟨rfl,rfl⟩
 obtain ⟨rfl,hww⟩:=hcut
 obtain rfl:=hww.symm
 clear hww
 clear hny
 go_upto_region 13 with fail
 go_cut [72] from 64 to 72 (fun s5 wx=>s5=.bool true/\wx=w3)
 case first=>
   rcases hk with rfl | rfl | rfl
   · go_wp2_with fail
     go_meet
     exact ⟨rfl,rfl⟩
   · go_wp2_with fail
     go_meet
     exact ⟨rfl,rfl⟩
   · go_wp2_with fail
     go_meet
     exact ⟨rfl,rfl⟩
 obtain ⟨rfl,hww⟩:=hcut
 obtain rfl:=hww.symm
 clear hww
 go_wp2_with fail
 refine (hnm.out _).mono ?_
 rintro e w4 ⟨rfl,hb⟩
 have h4:=h3.out.move hb
 clear h3 hb hnm
 obtain ⟨w3,hw3⟩:∃w3,w3=w4:=⟨_,rfl⟩
 rw [<-hw3] at h4 ⊢
 clear hw3
 have h3:=h4
 clear h4
 unfold numI
 cases hn:numS t 4096 with
 | none=>
   dsimp only;have hHe:=hH.out;rw [hn] at hHe;subst hHe;clear hH;replace h3:=Hd h3;go_upto_region 16 with fail
   go_cut [105] from 79 to 105 (fun s5 wx=>s5=.bool true/\wx=w3)
   case first=>
     go_wp2_with fail
     go_meet
     exact ⟨rfl,rfl⟩
   obtain ⟨rfl,hww⟩:=hcut;obtain rfl:=hww.symm;clear hww;have h3:=h3.out;have hrR:(w3.setCells w.heap.size 0 [.int .i64 0,.string (⟨#[]⟩:ByteArray),.int .i64 0,.float .f64 0,.bool false,.slice none 0 0]).rangeAt w.heap.size 0 [.int .i64 0,.string (⟨#[]⟩:ByteArray),.int .i64 0,.float .f64 0,.bool false,.slice none 0 0]:=
     World.rangeAt_setCells_same _ _ _ _ (Ae (n:=6) h3.zero h3.blk rfl)
   have htC:=Ae (n:=6) h3.zero h3.blk rfl;have hfu:=h3.full;have hbl:Below w.heap.size w (w3.setCells w.heap.size 0 [.int .i64 0,.string (⟨#[]⟩:ByteArray),.int .i64 0,.float .f64 0,.bool false,.slice none 0 0]):=
     h3.below.trans ((Fr.setCells (S:=fun k=>k=w.heap.size) (fun _=>rfl) _ _ _ (Fr.refl _ w3)).below h3.below.size (fun i hi h=>by omega))
   replace hrR:=Hd hrR;replace htC:=Hd htC;replace hfu:=Hd hfu;replace hbl:=Hd hbl;replace h3:=Hd h3
   go_wp2_with (first
     | (refine wpList_load_mid rfl 26 _ rfl (w.heap.size+1) 0 rfl _ _ hfu.out Tryz.underlying26 rfl Ab ?_)
     | (refine wpList_store_mid rfl 26 _ _ rfl w.heap.size 0 _ rfl rfl htC.out Ab (one6 _ _ _ _ _ _ _ _) ?_))
   refine bodyPost_ret (Al (v:=.agg #[.int .i64 0,.string (⟨#[]⟩:ByteArray),.int .i64 0,.float .f64 0,.bool false,.slice none 0 0]) rfl rfl (run_loadVar_mid (P:=Tryz.prog) _ _ 0 26 _ _ hrR.out Tryz.underlying26 rfl Ab)) rfl ?_;exact ⟨0,0,rfl,hbl.out⟩
 | some n=>
   dsimp only;have hn4:=numS_leG hn;have hHe:=hH.out;rw [hn] at hHe;dsimp only at hHe;clear hn hH;replace hHe:=Hd hHe;have hw1:IntKind.i64.wrap ((n:Int)+1)=((n+1:Nat):Int):=by rw [IntWalk.i64_in _ (by omega)];omega
   have hw2:IntKind.i64.wrap ((n:Int)+2)=((n+2:Nat):Int):=by rw [IntWalk.i64_in _ (by omega)];omega
   have hn0:¬(n:Int)<0:=by omega
   replace h3:=Hd h3;go_upto_region 16 with fail
   rcases longS_cases T2.data.toList n with ⟨e,⟨a1,a2⟩ | ⟨a1,a2,a3⟩⟩ | ⟨e,a1 | ⟨a1,a2⟩⟩ | ⟨e,a1,a2,a3⟩
   · have hHf:=hHe.out
     rw [e] at hHf;subst hHf;clear hHe;rw [hlen.out] at a1;rw [Dq a1] at a2;have i1:(n:Int)<(T2.size:Int):=by omega
     obtain ⟨b1,hb1⟩:∃b1,T2[n]'a1=b1:=⟨_,rfl⟩;rw [hb1] at a2;have j1:=byte_nq (d:=13) (n:=13) rfl a2;have j9:=byte_ne (d:=13) (n:=13) rfl a2;clear a2;replace e:=Hd e;by_cases i2:n+1<T2.size
     · have i2i:((n+1:Nat):Int)<(T2.size:Int):=by omega
       go_cut [105] from 79 to 105 (fun s5 wx=>s5=.bool true/\wx=w3)
       case first=>
         go_wp2_with fail
         go_meet
         exact ⟨rfl,rfl⟩
       obtain ⟨rfl,hww⟩:=hcut;obtain rfl:=hww.symm;clear hww;have h3:=h3.out;have hrR:(w3.setCells w.heap.size 0 [.int .i64 0,.string (⟨#[]⟩:ByteArray),.int .i64 0,.float .f64 0,.bool false,.slice none 0 0]).rangeAt w.heap.size 0 [.int .i64 0,.string (⟨#[]⟩:ByteArray),.int .i64 0,.float .f64 0,.bool false,.slice none 0 0]:=
         World.rangeAt_setCells_same _ _ _ _ (Ae (n:=6) h3.zero h3.blk rfl)
       have htC:=Ae (n:=6) h3.zero h3.blk rfl;have hfu:=h3.full;have hbl:Below w.heap.size w (w3.setCells w.heap.size 0 [.int .i64 0,.string (⟨#[]⟩:ByteArray),.int .i64 0,.float .f64 0,.bool false,.slice none 0 0]):=
         h3.below.trans ((Fr.setCells (S:=fun k=>k=w.heap.size) (fun _=>rfl) _ _ _ (Fr.refl _ w3)).below h3.below.size (fun i hi h=>by omega))
       replace hrR:=Hd hrR;replace htC:=Hd htC;replace hfu:=Hd hfu;replace hbl:=Hd hbl;replace h3:=Hd h3
       go_wp2_with (first
         | (refine wpList_load_mid rfl 26 _ rfl (w.heap.size+1) 0 rfl _ _ hfu.out Tryz.underlying26 rfl Ab ?_)
         | (refine wpList_store_mid rfl 26 _ _ rfl w.heap.size 0 _ rfl rfl htC.out Ab (one6 _ _ _ _ _ _ _ _) ?_))
       refine bodyPost_ret (Al (v:=.agg #[.int .i64 0,.string (⟨#[]⟩:ByteArray),.int .i64 0,.float .f64 0,.bool false,.slice none 0 0]) rfl rfl (run_loadVar_mid (P:=Tryz.prog) _ _ 0 26 _ _ hrR.out Tryz.underlying26 rfl Ab)) rfl ?_;exact ⟨0,0,rfl,hbl.out⟩
     · have i2i:¬((n+1:Nat):Int)<(T2.size:Int):=by omega
       go_cut [105] from 79 to 105 (fun s5 wx=>s5=.bool true/\wx=w3)
       case first=>
         go_wp2_with fail
         go_meet
         exact ⟨rfl,rfl⟩
       obtain ⟨rfl,hww⟩:=hcut;obtain rfl:=hww.symm;clear hww;have h3:=h3.out;have hrR:(w3.setCells w.heap.size 0 [.int .i64 0,.string (⟨#[]⟩:ByteArray),.int .i64 0,.float .f64 0,.bool false,.slice none 0 0]).rangeAt w.heap.size 0 [.int .i64 0,.string (⟨#[]⟩:ByteArray),.int .i64 0,.float .f64 0,.bool false,.slice none 0 0]:=
         World.rangeAt_setCells_same _ _ _ _ (Ae (n:=6) h3.zero h3.blk rfl)
       have htC:=Ae (n:=6) h3.zero h3.blk rfl;have hfu:=h3.full;have hbl:Below w.heap.size w (w3.setCells w.heap.size 0 [.int .i64 0,.string (⟨#[]⟩:ByteArray),.int .i64 0,.float .f64 0,.bool false,.slice none 0 0]):=
         h3.below.trans ((Fr.setCells (S:=fun k=>k=w.heap.size) (fun _=>rfl) _ _ _ (Fr.refl _ w3)).below h3.below.size (fun i hi h=>by omega))
       replace hrR:=Hd hrR;replace htC:=Hd htC;replace hfu:=Hd hfu;replace hbl:=Hd hbl;replace h3:=Hd h3
       go_wp2_with (first
         | (refine wpList_load_mid rfl 26 _ rfl (w.heap.size+1) 0 rfl _ _ hfu.out Tryz.underlying26 rfl Ab ?_)
         | (refine wpList_store_mid rfl 26 _ _ rfl w.heap.size 0 _ rfl rfl htC.out Ab (one6 _ _ _ _ _ _ _ _) ?_))
       refine bodyPost_ret (Al (v:=.agg #[.int .i64 0,.string (⟨#[]⟩:ByteArray),.int .i64 0,.float .f64 0,.bool false,.slice none 0 0]) rfl rfl (run_loadVar_mid (P:=Tryz.prog) _ _ 0 26 _ _ hrR.out Tryz.underlying26 rfl Ab)) rfl ?_;exact ⟨0,0,rfl,hbl.out⟩
   · have hHf:=hHe.out
     rw [e] at hHf;subst hHf;clear hHe;have a0:n<T2.size:=by have:=hlen.out;omega
     rw [hlen.out] at a1;rw [Dq a0] at a2;rw [Dq a1] at a3;have i1:(n:Int)<(T2.size:Int):=by omega
     have i2i:((n+1:Nat):Int)<(T2.size:Int):=by omega
     obtain ⟨b1,hb1⟩:∃b1,T2[n]'a0=b1:=⟨_,rfl⟩;obtain ⟨b2,hb2⟩:∃b2,T2[n+1]'a1=b2:=⟨_,rfl⟩;rw [hb1] at a2;rw [hb2] at a3;have j1:((b1.toNat:Int) != 13)=false:=by rw [a2];rfl
     have j9:((b1.toNat:Int) == 13)=true:=by rw [a2];rfl
     have j2:=byte_nq (d:=10) (n:=10) rfl a3;have j8:=byte_ne (d:=10) (n:=10) rfl a3;clear a2 a3;replace e:=Hd e
     go_cut [105] from 79 to 105 (fun s5 wx=>s5=.bool true/\wx=w3)
     case first=>
       go_wp2_with fail
       go_meet
       exact ⟨rfl,rfl⟩
     obtain ⟨rfl,hww⟩:=hcut;obtain rfl:=hww.symm;clear hww;have h3:=h3.out;have hrR:(w3.setCells w.heap.size 0 [.int .i64 0,.string (⟨#[]⟩:ByteArray),.int .i64 0,.float .f64 0,.bool false,.slice none 0 0]).rangeAt w.heap.size 0 [.int .i64 0,.string (⟨#[]⟩:ByteArray),.int .i64 0,.float .f64 0,.bool false,.slice none 0 0]:=
       World.rangeAt_setCells_same _ _ _ _ (Ae (n:=6) h3.zero h3.blk rfl)
     have htC:=Ae (n:=6) h3.zero h3.blk rfl;have hfu:=h3.full;have hbl:Below w.heap.size w (w3.setCells w.heap.size 0 [.int .i64 0,.string (⟨#[]⟩:ByteArray),.int .i64 0,.float .f64 0,.bool false,.slice none 0 0]):=
       h3.below.trans ((Fr.setCells (S:=fun k=>k=w.heap.size) (fun _=>rfl) _ _ _ (Fr.refl _ w3)).below h3.below.size (fun i hi h=>by omega))
     replace hrR:=Hd hrR;replace htC:=Hd htC;replace hfu:=Hd hfu;replace hbl:=Hd hbl;replace h3:=Hd h3
     go_wp2_with (first
       | (refine wpList_load_mid rfl 26 _ rfl (w.heap.size+1) 0 rfl _ _ hfu.out Tryz.underlying26 rfl Ab ?_)
       | (refine wpList_store_mid rfl 26 _ _ rfl w.heap.size 0 _ rfl rfl htC.out Ab (one6 _ _ _ _ _ _ _ _) ?_))
     refine bodyPost_ret (Al (v:=.agg #[.int .i64 0,.string (⟨#[]⟩:ByteArray),.int .i64 0,.float .f64 0,.bool false,.slice none 0 0]) rfl rfl (run_loadVar_mid (P:=Tryz.prog) _ _ 0 26 _ _ hrR.out Tryz.underlying26 rfl Ab)) rfl ?_;exact ⟨0,0,rfl,hbl.out⟩
   · have hHf:=hHe.out
     rw [e] at hHf;subst hHf;clear hHe;rw [hlen.out] at a1;have i1:¬(n:Int)<(T2.size:Int):=by omega
     have i2i:¬((n+1:Nat):Int)<(T2.size:Int):=by omega
     have i3:(T2.size:Int)<((n+2:Nat):Int):=by omega
     replace e:=Hd e
     go_cut [105] from 79 to 105 (fun s5 wx=>s5=.bool false/\wx=w3)
     case first=>
       go_wp2_with fail
       go_meet
       exact ⟨rfl,rfl⟩
     obtain ⟨rfl,hww⟩:=hcut;obtain rfl:=hww.symm;clear hww;have h3:=h3.out;have hrR:(w3.setCells w.heap.size 0 [.int .i64 0,.string (⟨#[]⟩:ByteArray),.int .i64 0,.float .f64 0,.bool false,.slice none 0 0]).rangeAt w.heap.size 0 [.int .i64 0,.string (⟨#[]⟩:ByteArray),.int .i64 0,.float .f64 0,.bool false,.slice none 0 0]:=
       World.rangeAt_setCells_same _ _ _ _ (Ae (n:=6) h3.zero h3.blk rfl)
     have htC:=Ae (n:=6) h3.zero h3.blk rfl;have hfu:=h3.full;have hbl:Below w.heap.size w (w3.setCells w.heap.size 0 [.int .i64 0,.string (⟨#[]⟩:ByteArray),.int .i64 0,.float .f64 0,.bool false,.slice none 0 0]):=
       h3.below.trans ((Fr.setCells (S:=fun k=>k=w.heap.size) (fun _=>rfl) _ _ _ (Fr.refl _ w3)).below h3.below.size (fun i hi h=>by omega))
     replace hrR:=Hd hrR;replace htC:=Hd htC;replace hfu:=Hd hfu;replace hbl:=Hd hbl;replace h3:=Hd h3
     go_wp2_with (first
       | (refine wpList_load_mid rfl 26 _ rfl (w.heap.size+1) 0 rfl _ _ hfu.out Tryz.underlying26 rfl Ab ?_)
       | (refine wpList_store_mid rfl 26 _ _ rfl w.heap.size 0 _ rfl rfl htC.out Ab (one6 _ _ _ _ _ _ _ _) ?_))
     refine bodyPost_ret (Al (v:=.agg #[.int .i64 0,.string (⟨#[]⟩:ByteArray),.int .i64 0,.float .f64 0,.bool false,.slice none 0 0]) rfl rfl (run_loadVar_mid (P:=Tryz.prog) _ _ 0 26 _ _ hrR.out Tryz.underlying26 rfl Ab)) rfl ?_;exact ⟨0,0,rfl,hbl.out⟩
   · have hHf:=hHe.out
     rw [e] at hHf;subst hHf;clear hHe;have a0:n<T2.size:=by have:=hlen.out;omega
     rw [hlen.out] at a1;rw [Dq a0] at a2;have i1:(n:Int)<(T2.size:Int):=by omega
     have i2i:¬((n+1:Nat):Int)<(T2.size:Int):=by omega
     have i3:(T2.size:Int)<((n+2:Nat):Int):=by omega
     obtain ⟨b1,hb1⟩:∃b1,T2[n]'a0=b1:=⟨_,rfl⟩;rw [hb1] at a2;have j1:((b1.toNat:Int) != 13)=false:=by rw [a2];rfl
     have j9:((b1.toNat:Int) == 13)=true:=by rw [a2];rfl
     clear a1 a2;replace e:=Hd e
     go_cut [105] from 79 to 105 (fun s5 wx=>s5=.bool false/\wx=w3)
     case first=>
       go_wp2_with fail
       go_meet
       exact ⟨rfl,rfl⟩
     obtain ⟨rfl,hww⟩:=hcut;obtain rfl:=hww.symm;clear hww;have h3:=h3.out;have hrR:(w3.setCells w.heap.size 0 [.int .i64 0,.string (⟨#[]⟩:ByteArray),.int .i64 0,.float .f64 0,.bool false,.slice none 0 0]).rangeAt w.heap.size 0 [.int .i64 0,.string (⟨#[]⟩:ByteArray),.int .i64 0,.float .f64 0,.bool false,.slice none 0 0]:=
       World.rangeAt_setCells_same _ _ _ _ (Ae (n:=6) h3.zero h3.blk rfl)
     have htC:=Ae (n:=6) h3.zero h3.blk rfl;have hfu:=h3.full;have hbl:Below w.heap.size w (w3.setCells w.heap.size 0 [.int .i64 0,.string (⟨#[]⟩:ByteArray),.int .i64 0,.float .f64 0,.bool false,.slice none 0 0]):=
       h3.below.trans ((Fr.setCells (S:=fun k=>k=w.heap.size) (fun _=>rfl) _ _ _ (Fr.refl _ w3)).below h3.below.size (fun i hi h=>by omega))
     replace hrR:=Hd hrR;replace htC:=Hd htC;replace hfu:=Hd hfu;replace hbl:=Hd hbl;replace h3:=Hd h3
     go_wp2_with (first
       | (refine wpList_load_mid rfl 26 _ rfl (w.heap.size+1) 0 rfl _ _ hfu.out Tryz.underlying26 rfl Ab ?_)
       | (refine wpList_store_mid rfl 26 _ _ rfl w.heap.size 0 _ rfl rfl htC.out Ab (one6 _ _ _ _ _ _ _ _) ?_))
     refine bodyPost_ret (Al (v:=.agg #[.int .i64 0,.string (⟨#[]⟩:ByteArray),.int .i64 0,.float .f64 0,.bool false,.slice none 0 0]) rfl rfl (run_loadVar_mid (P:=Tryz.prog) _ _ 0 26 _ _ hrR.out Tryz.underlying26 rfl Ab)) rfl ?_;exact ⟨0,0,rfl,hbl.out⟩
   · have hHf:=hHe.out
     rw [e] at hHf;dsimp only at hHf;clear hHe;have a0:n<T2.size:=by have:=hlen.out;omega
     have a00:n+1<T2.size:=by have:=hlen.out;omega
     rw [hlen.out] at a1;rw [Dq a0] at a2;rw [Dq a00] at a3;have i1:(n:Int)<(T2.size:Int):=by omega
     have i1e:(n:Int)<=(T2.size:Int):=by omega
     have i2i:((n+1:Nat):Int)<(T2.size:Int):=by omega
     have i3:¬(T2.size:Int)<((n+2:Nat):Int):=by omega
     obtain ⟨b1,hb1⟩:∃b1,T2[n]'a0=b1:=⟨_,rfl⟩;obtain ⟨b2,hb2⟩:∃b2,T2[n+1]'a00=b2:=⟨_,rfl⟩;rw [hb1] at a2;rw [hb2] at a3;have j1:((b1.toNat:Int) != 13)=false:=by rw [a2];rfl
     have j9:((b1.toNat:Int) == 13)=true:=by rw [a2];rfl
     have j2:((b2.toNat:Int) != 10)=false:=by rw [a3];rfl
     have j8:((b2.toNat:Int) == 10)=true:=by rw [a3];rfl
     clear a2 a3;obtain ⟨X,hX⟩:∃X:ByteArray,X=⟨(T2.data.toList.take n).toArray⟩:=⟨_,rfl⟩;have hXe:T2.extract 0 n=X:=by
       rw [hX];exact ByteArray.ext (Array.ext' (by rw [ByteArray.data_extract,Array.toList_extract,List.extract_eq_take_drop,List.drop_zero,Nat.sub_zero]))
     have hXz:X.size<=9223372036854775807:=by rw [<-hXe,ByteArray.size_extract];omega
     rw [<-hX] at hHf;replace hX:=Hd hX;have hck:=fun W=>Ci (k:Int) X 0 0 false hkl hXz W;obtain ⟨ok,hok⟩:∃ok,ok=okV (Ao (k:Int) X 0 0 false):=⟨_,rfl⟩;rw [<-hok] at hck hHf;replace hHf:=Hd hHf;replace hck:=Hd hck;replace hok:=Hd hok;replace e:=Hd e;have hUi:(U:Int)<=1000000:=by omega
     have hw4:IntKind.i64.wrap ((U:Int)+(n:Int))=((U+n:Nat):Int):=by rw [IntWalk.i64_in _ (by omega)];omega
     have hw5:IntKind.i64.wrap (((U+n:Nat):Int)+2)=((U+(n+2):Nat):Int):=by rw [IntWalk.i64_in _ (by omega)];omega
     go_cut [105] from 79 to 105 (fun s5 wx=>s5=.bool false/\wx=w3)
     case first=>
       go_wp2_with fail
       go_meet
       exact ⟨rfl,rfl⟩
     obtain ⟨rfl,hww⟩:=hcut;obtain rfl:=hww.symm;clear hww;have hth:=A2 w3 26;have hnv:=Bp w3 26 [.int .i64 (k:Int),.string X,.int .i64 0,.float .f64 0,.bool false,.slice none 0 0] rfl;replace hth:=Hd hth;replace hnv:=Hd hnv;have tok1:True:=trivial;go_upto_region 21 with (have _t:=tok1;refine wpList_store_mid rfl 26 _ _ rfl w3.heap.size 0 _ rfl rfl hth.out Ab (one6 _ _ _ _ _ _ _ _) ?_;clear tok1 _t)
     generalize (w3.alloc (.cells #[Value.int .i64 0,.string ⟨#[]⟩,.int .i64 0,.float .f64 0,.bool false,.slice none 0 0] 26)).setCells w3.heap.size 0 [Value.int .i64 (k:Int),.string X,.int .i64 0,.float .f64 0,.bool false,.slice none 0 0]=w5 at hnv ⊢;obtain ⟨hb5,hr5,_⟩:=hnv.out;have h5:=h3.out.move hb5;obtain ⟨G,hG⟩:∃G,G=w3.heap.size:=⟨_,rfl⟩;rw [<-hG] at hr5 ⊢;clear hnv hth h3 hb5;replace hr5:=Hd hr5;replace h5:=Hd h5;replace hG:=Hd hG;have tok2:True:=trivial;go_wp2_with (have _t:=tok2;refine wpList_load_mid rfl 26 _ rfl G 0 rfl _ _ hr5.out Tryz.underlying26 rfl Ab ?_;clear tok2 _t)
     refine (hck.out _).mono ?_;rintro e w6 ⟨rfl,hb6⟩;have h3:=h5.out.move hb6;have hr6:=D6 hb6 hr5.out;clear h5 hr5 hb6 hck;obtain ⟨w3,hw3⟩:∃w3,w3=w6:=⟨_,rfl⟩;rw [<-hw3] at h3 hr6 ⊢;clear hw3;cases ok with
     | false=>
       have hHg:=hHf.out;rw [if_neg (by decide)] at hHg;subst hHg;clear hHf;have hrR:(w3.setCells w.heap.size 0 [.int .i64 0,.string (⟨#[]⟩:ByteArray),.int .i64 0,.float .f64 0,.bool false,.slice none 0 0]).rangeAt w.heap.size 0 [.int .i64 0,.string (⟨#[]⟩:ByteArray),.int .i64 0,.float .f64 0,.bool false,.slice none 0 0]:=
         World.rangeAt_setCells_same _ _ _ _ (Ae (n:=6) h3.zero h3.blk rfl)
       have htC:=Ae (n:=6) h3.zero h3.blk rfl;have hfu:=h3.full;have hbl:Below w.heap.size w (w3.setCells w.heap.size 0 [.int .i64 0,.string (⟨#[]⟩:ByteArray),.int .i64 0,.float .f64 0,.bool false,.slice none 0 0]):=
         h3.below.trans ((Fr.setCells (S:=fun k=>k=w.heap.size) (fun _=>rfl) _ _ _ (Fr.refl _ w3)).below h3.below.size (fun i hi h=>by omega))
       replace hrR:=Hd hrR;replace htC:=Hd htC;replace hfu:=Hd hfu;replace hbl:=Hd hbl;replace h3:=Hd h3
       go_wp2_with (first
         | (refine wpList_load_mid rfl 26 _ rfl (w.heap.size+1) 0 rfl _ _ hfu.out Tryz.underlying26 rfl Ab ?_)
         | (refine wpList_store_mid rfl 26 _ _ rfl w.heap.size 0 _ rfl rfl htC.out Ab (one6 _ _ _ _ _ _ _ _) ?_))
       refine bodyPost_ret (Al (v:=.agg #[.int .i64 0,.string (⟨#[]⟩:ByteArray),.int .i64 0,.float .f64 0,.bool false,.slice none 0 0]) rfl rfl (run_loadVar_mid (P:=Tryz.prog) _ _ 0 26 _ _ hrR.out Tryz.underlying26 rfl Ab)) rfl ?_;exact ⟨0,0,rfl,hbl.out⟩
     | true=>
       have hHg:=hHf.out;rw [if_pos rfl] at hHg;subst hHg;clear hHf;replace hr6:=Hd hr6;have hrR:(w3.setCells w.heap.size 0 [.int .i64 k,.string X,.int .i64 0,.float .f64 0,.bool false,.slice none 0 0]).rangeAt w.heap.size 0 [.int .i64 k,.string X,.int .i64 0,.float .f64 0,.bool false,.slice none 0 0]:=
         World.rangeAt_setCells_same _ _ _ _ (Ae (n:=6) h3.zero h3.blk rfl)
       have htC:=Ae (n:=6) h3.zero h3.blk rfl;have hbl:Below w.heap.size w (w3.setCells w.heap.size 0 [.int .i64 k,.string X,.int .i64 0,.float .f64 0,.bool false,.slice none 0 0]):=
         h3.below.trans ((Fr.setCells (S:=fun k=>k=w.heap.size) (fun _=>rfl) _ _ _ (Fr.refl _ w3)).below h3.below.size (fun i hi h=>by omega))
       replace hrR:=Hd hrR;replace htC:=Hd htC;replace hbl:=Hd hbl;replace h3:=Hd h3
       go_wp2_with (first
         | (refine wpList_load_mid rfl 26 _ rfl G 0 rfl _ _ hr6.out Tryz.underlying26 rfl Ab ?_)
         | (refine wpList_store_mid rfl 26 _ _ rfl w.heap.size 0 _ rfl rfl htC.out Ab (one6 _ _ _ _ _ _ _ _) ?_))
       refine bodyPost_ret (Al (v:=.agg #[.int .i64 k,.string X,.int .i64 0,.float .f64 0,.bool false,.slice none 0 0]) rfl rfl (run_loadVar_mid (P:=Tryz.prog) _ _ 0 26 _ _ hrR.out Tryz.underlying26 rfl Ab)) rfl ?_;exact ⟨by first | rfl | simp [Ao,V.kind,V.text,V.int,V.real,V.flag],hbl.out⟩
set_option maxRecDepth 100000 in
set_option maxHeartbeats 6400000 in
theorem scan5_single {w:World} {s:ByteArray} {u:Nat} {t:List UInt8} {o:Option Nat} (h0:0<s.size) (hs:s.size<=1000000) (hk:Ac (s[0]'h0)=1\/Ac (s[0]'h0)=2\/Ac (s[0]'h0)=9\/Ac (s[0]'h0)=3\/Ac (s[0]'h0)=7\/Ac (s[0]'h0)=8\/Ac (s[0]'h0)=6) (hl:Aw (s.data.toList.drop 1)=.got (t,u))
   (hp:Ac (s[0]'h0)=7->∀W,Below w.heap.size w W->Calls Tryz.prog 92 #[.string ⟨t.toArray⟩] W fun e w' => e=ParE o/\Below W.heap.size W w') {H:Head} (hH:H=(match Cd o (Ac (s[0]'h0)) ⟨t.toArray⟩ with
     | none=>.stop 51
     | some v=>if okV v=true then .leaf v (1+u) else .stop 51)) (d m:Int) :
   Calls Tryz.prog 47 #[.string s,.int .i64 d,.int .i64 m] w (HeadQ H m w):=by
 have hl0:=hl
 have hm:¬(t=[45,49]/\(Ac (s[0]'h0)=4\/Ac (s[0]'h0)=5)):=by omega
 rw [show (1+u)=u+1 by omega] at hH
 obtain ⟨c,hc⟩:∃c,s[0]'h0=c:=⟨_,rfl⟩
 rw [hc] at hk
 have hkc:=C1 c
 have h0i:(0:Int)<(s.size:Int):=by omega
 have h1i:(1:Int)<=(s.size:Int):=by omega
 obtain ⟨j1,j3,j4⟩:=Bl h0
 obtain ⟨T,hT⟩:∃T,T=s.extract 1 s.size:=⟨_,rfl⟩
 have hTs:T.size<=1000000:=by rw [hT,ByteArray.size_extract];omega
 have hln:=Dc hTs
 have hTl:T.data.toList=s.data.toList.drop 1:=by rw [hT];exact C9
 have hul:=(A7 hl).1
 rw [List.length_drop,Array.length_toList] at hul
 have hul9:s.data.size=s.size:=rfl
 obtain ⟨U,hU⟩:∃U,U=u+1:=⟨_,rfl⟩
 have hu1:IntKind.i64.wrap ((u:Int)+1)=(U:Int):=by rw [IntWalk.i64_in _ (by omega)];omega
 try rw [<-hU]
 replace hU:=Hd hU
 rw [hTl,hl] at hln
 unfold lineA at hln
 have hT2:=hT.symm
 dsimp only at hln
 replace hln:=Hd hln
 replace hkc:=Hd hkc
 clear hTl hl hTs hT hul hul9
 rw [<-hU.out,hc] at hH
 rw [hc] at hm hp
 obtain ⟨tb2,htb2⟩:∃tb:ByteArray,tb=⟨t.toArray⟩:=⟨_,rfl⟩
 rw [<-htb2] at hp hH
 obtain ⟨k,hkk⟩:∃k,k=Ac c:=⟨_,rfl⟩
 rw [<-hkk] at hk hkc
 try rw [<-hkk] at hm
 try rw [<-hkk] at hp
 try rw [<-hkk] at hH
 try rw [<-hkk] at hnn
 try rw [<-hkk] at h14
 clear hkk
 obtain ⟨tb,htb⟩:∃tb:ByteArray,tb=⟨t.toArray⟩:=⟨_,rfl⟩
 have htl:tb.data.toList=t:=by rw [htb]
 have htz:tb.size<=1000000:=by
   have h1:=(A7 hl0).2.2;rw [<-htl,Array.length_toList] at h1;have h2:tb.data.size=tb.size:=rfl;omega
 rw [<-htb] at hln
 have hny:((tb.toList == [45,49])=false)\/((tb.toList == [45,49])=true/\((k:Int) == 4)=false/\((k:Int) == 5)=false):=by
   cases h9:(tb.toList == [45,49]) with
   | false=>exact .inl rfl
   | true=>
     refine .inr ⟨rfl,?_⟩;have h8:=eq_of_beq h9;rw [ByteArray.toList_eq,htl] at h8;have h7:¬(k=4\/k=5):=fun e=>hm ⟨h8,e⟩;exact ⟨by rw [beq_eq_false_iff_ne];omega,by rw [beq_eq_false_iff_ne];omega⟩
 clear htb
 replace hny:=Hd hny
 replace hm:=Hd hm
 replace htl:=Hd htl
 replace hl0:=Hd hl0
 try replace hH:=Hd hH
 have e2:tb=tb2:=by rw [htb2];exact ByteArray.ext (Array.ext' (by rw [htl.out]))
 rw [e2] at hln hny htz
 have hsg:=fun (W:World) (hW:Below w.heap.size w W)=>sing_any (w:=W) (k:=k) (t:=tb2) (o:=o) hk htz (fun h7 W' hW' => hp h7 W' (hW.trans (hW'.mono hW.size)))
 clear e2 htb2
 have hls:=Bd (k:Int)
 have hkl:Ak (k:Int)=false:=by unfold Ak;rw [decide_eq_false_iff_not];omega
 rw [hkl] at hls
 replace hls:=Hd hls
 replace hsg:=Hd hsg
 clear hp
 have h2:=Two.start w 0 ⟨#[]⟩ 0 0 false
 obtain ⟨W2,hW2⟩:∃W,W=(w.alloc (.cells #[.int .i64 0,.string ⟨#[]⟩,.int .i64 0,.float .f64 0,.bool false,.slice none 0 0] 26)).alloc (.cells #[.int .i64 0,.string ⟨#[]⟩,.int .i64 0,.float .f64 0,.bool false,.slice none 0 0] 26):=⟨_,rfl⟩
 rw [<-hW2] at h2
 replace hW2:=Hd hW2
 replace h2:=Hd h2
 go_enter Tryz.func47,Tryz.ntmps47
 go_upto_region 2 with fail
 rw [<-hW2.out]
 clear hW2
 go_wp2_with fail
 refine (hkc.out _).mono ?_
 rintro e w3 ⟨rfl,hww⟩
 have h3:=h2.out
 rw [<-hww] at h3
 clear h2 hww
 go_wp2_with fail
 refine (hln.out _).mono ?_
 rintro e w3 ⟨rfl,hww⟩
 rw [<-hww] at h3
 clear hww
 replace h3:=Hd h3
 go_upto_region 11 with fail
 go_cut [59] from 51 to 59 (fun s5 wx=>s5=.bool false/\wx=w3)
 case first=>
   rcases hny.out with y1 | ⟨y1,c4,c5⟩
   · go_wp2_with fail
     go_meet
     exact ⟨rfl,rfl⟩
   · go_wp2_with fail
     go_meet
     exact ⟨rfl,rfl⟩
 obtain ⟨rfl,hww⟩:=hcut
 obtain rfl:=hww.symm
 clear hww
 clear hny
 go_upto_region 13 with fail
 go_cut [72] from 64 to 72 (fun s5 wx=>s5=.bool false/\wx=w3)
 case first=>
   have c4:((k:Int) == 4)=false:=by rw [beq_eq_false_iff_ne];omega
   have c10:((k:Int) == 10)=false:=by rw [beq_eq_false_iff_ne];omega
   have c11:((k:Int) == 11)=false:=by rw [beq_eq_false_iff_ne];omega
   go_wp2_with fail
   go_meet
   exact ⟨rfl,rfl⟩
 obtain ⟨rfl,hww⟩:=hcut
 obtain rfl:=hww.symm
 clear hww
 replace hk:=Hd hk
 go_wp2_with fail
 refine (hls.out _).mono ?_
 rintro e w4 ⟨rfl,hww⟩
 obtain rfl:=hww.symm
 clear hww hls
 go_wp2_with fail
 refine (hsg.out _ h3.out.below).mono ?_
 rintro e w4 ⟨he,hb⟩
 have h4:=h3.out.move hb
 clear h3 hb hsg
 obtain ⟨w3,hw3⟩:∃w3,w3=w4:=⟨_,rfl⟩
 rw [<-hw3] at h4 ⊢
 clear hw3
 have h3:=h4
 clear h4
 cases ho:Cd o k tb2 with
 | none=>
   rw [ho] at he;have hHe:=hH.out;rw [ho] at hHe;subst hHe;clear ho hH;obtain rfl:e=.returned (.tuple #[.agg #[.int .i64 0,.string ⟨#[]⟩,.int .i64 0,.float .f64 0,.bool false,.slice none 0 0],.int .i64 2]):=he;have hth:=A2 w3 26;have hnv:=Bp w3 26 [.int .i64 0,.string ⟨#[]⟩,.int .i64 0,.float .f64 0,.bool false,.slice none 0 0] rfl;replace hth:=Hd hth;replace hnv:=Hd hnv;replace h3:=Hd h3;have tok1:True:=trivial;go_upto_region 26 with (have _t:=tok1;refine wpList_store_mid rfl 26 _ _ rfl w3.heap.size 0 _ rfl rfl hth.out Ab (one6 _ _ _ _ _ _ _ _) ?_;clear tok1 _t)
   generalize (w3.alloc (.cells #[Value.int .i64 0,.string ⟨#[]⟩,.int .i64 0,.float .f64 0,.bool false,.slice none 0 0] 26)).setCells w3.heap.size 0 [Value.int .i64 0,.string ⟨#[]⟩,.int .i64 0,.float .f64 0,.bool false,.slice none 0 0]=w5 at hnv ⊢;obtain ⟨hb5,hr6,_⟩:=hnv.out;have h5:=h3.out.move hb5;obtain ⟨G,hG⟩:∃G,G=w3.heap.size:=⟨_,rfl⟩;rw [<-hG] at hr6 ⊢;clear hnv hth h3 hb5;obtain ⟨w3,hw3⟩:∃w3,w3=w5:=⟨_,rfl⟩;rw [<-hw3] at h5 hr6 ⊢;clear hw3;have h3:=h5;clear h5;replace hr6:=Hd hr6;replace hG:=Hd hG;have hrR:(w3.setCells w.heap.size 0 [.int .i64 0,.string ⟨#[]⟩,.int .i64 0,.float .f64 0,.bool false,.slice none 0 0]).rangeAt w.heap.size 0 [.int .i64 0,.string ⟨#[]⟩,.int .i64 0,.float .f64 0,.bool false,.slice none 0 0]:=
     World.rangeAt_setCells_same _ _ _ _ (Ae (n:=6) h3.zero h3.blk rfl)
   have htC:=Ae (n:=6) h3.zero h3.blk rfl;have hbl:Below w.heap.size w (w3.setCells w.heap.size 0 [.int .i64 0,.string ⟨#[]⟩,.int .i64 0,.float .f64 0,.bool false,.slice none 0 0]):=
     h3.below.trans ((Fr.setCells (S:=fun k=>k=w.heap.size) (fun _=>rfl) _ _ _ (Fr.refl _ w3)).below h3.below.size (fun i hi h=>by omega))
   replace hrR:=Hd hrR;replace htC:=Hd htC;replace hbl:=Hd hbl;replace h3:=Hd h3
   go_wp2_with (first
     | (refine wpList_load_mid rfl 26 _ rfl G 0 rfl _ _ hr6.out Tryz.underlying26 rfl Ab ?_)
     | (refine wpList_store_mid rfl 26 _ _ rfl w.heap.size 0 _ rfl rfl htC.out Ab (one6 _ _ _ _ _ _ _ _) ?_))
   refine bodyPost_ret (Al (v:=.agg #[.int .i64 0,.string ⟨#[]⟩,.int .i64 0,.float .f64 0,.bool false,.slice none 0 0]) rfl rfl (run_loadVar_mid (P:=Tryz.prog) _ _ 0 26 _ _ hrR.out Tryz.underlying26 rfl Ab)) rfl ?_;exact ⟨_,_,rfl,hbl.out⟩
 | some v=>
   rw [ho] at he;have hHe:=hH.out;rw [ho] at hHe;dsimp only at hHe;clear hH;by_cases ok:okV v=true
   · rw [if_pos ok] at hHe
     subst hHe;obtain rfl:e=.returned (.tuple #[.agg #[.int .i64 v.kind,.string v.text,.int .i64 v.int,.float .f64 v.real,.bool v.flag,.slice none 0 0],.int .i64 0]):=by
       rw [he];unfold singA;dsimp only;rw [if_pos ok]
     clear he;replace ok:=Hd ok;replace ho:=Hd ho;have hth:=A2 w3 26;have hnv:=Bp w3 26 [.int .i64 v.kind,.string v.text,.int .i64 v.int,.float .f64 v.real,.bool v.flag,.slice none 0 0] rfl;replace hth:=Hd hth;replace hnv:=Hd hnv;replace h3:=Hd h3;have tok1:True:=trivial;go_upto_region 26 with (have _t:=tok1;refine wpList_store_mid rfl 26 _ _ rfl w3.heap.size 0 _ rfl rfl hth.out Ab (one6 _ _ _ _ _ _ _ _) ?_;clear tok1 _t)
     generalize (w3.alloc (.cells #[Value.int .i64 0,.string ⟨#[]⟩,.int .i64 0,.float .f64 0,.bool false,.slice none 0 0] 26)).setCells w3.heap.size 0 [Value.int .i64 v.kind,.string v.text,.int .i64 v.int,.float .f64 v.real,.bool v.flag,.slice none 0 0]=w5 at hnv ⊢;obtain ⟨hb5,hr6,_⟩:=hnv.out;have h5:=h3.out.move hb5;obtain ⟨G,hG⟩:∃G,G=w3.heap.size:=⟨_,rfl⟩;rw [<-hG] at hr6 ⊢;clear hnv hth h3 hb5;obtain ⟨w3,hw3⟩:∃w3,w3=w5:=⟨_,rfl⟩;rw [<-hw3] at h5 hr6 ⊢;clear hw3;have h3:=h5;clear h5;replace hr6:=Hd hr6;replace hG:=Hd hG;have hrR:(w3.setCells w.heap.size 0 [.int .i64 v.kind,.string v.text,.int .i64 v.int,.float .f64 v.real,.bool v.flag,.slice none 0 0]).rangeAt w.heap.size 0 [.int .i64 v.kind,.string v.text,.int .i64 v.int,.float .f64 v.real,.bool v.flag,.slice none 0 0]:=
       World.rangeAt_setCells_same _ _ _ _ (Ae (n:=6) h3.zero h3.blk rfl)
     have htC:=Ae (n:=6) h3.zero h3.blk rfl;have hbl:Below w.heap.size w (w3.setCells w.heap.size 0 [.int .i64 v.kind,.string v.text,.int .i64 v.int,.float .f64 v.real,.bool v.flag,.slice none 0 0]):=
       h3.below.trans ((Fr.setCells (S:=fun k=>k=w.heap.size) (fun _=>rfl) _ _ _ (Fr.refl _ w3)).below h3.below.size (fun i hi h=>by omega))
     replace hrR:=Hd hrR;replace htC:=Hd htC;replace hbl:=Hd hbl;replace h3:=Hd h3
     go_wp2_with (first
       | (refine wpList_load_mid rfl 26 _ rfl G 0 rfl _ _ hr6.out Tryz.underlying26 rfl Ab ?_)
       | (refine wpList_store_mid rfl 26 _ _ rfl w.heap.size 0 _ rfl rfl htC.out Ab (one6 _ _ _ _ _ _ _ _) ?_))
     refine bodyPost_ret (Al (v:=.agg #[.int .i64 v.kind,.string v.text,.int .i64 v.int,.float .f64 v.real,.bool v.flag,.slice none 0 0]) rfl rfl (run_loadVar_mid (P:=Tryz.prog) _ _ 0 26 _ _ hrR.out Tryz.underlying26 rfl Ab)) rfl ?_;exact ⟨rfl,hbl.out⟩
   · rw [if_neg ok] at hHe
     subst hHe;obtain rfl:e=.returned (.tuple #[.agg #[.int .i64 0,.string ⟨#[]⟩,.int .i64 0,.float .f64 0,.bool false,.slice none 0 0],.int .i64 2]):=by
       rw [he];unfold singA;dsimp only;rw [if_neg ok]
     clear he;replace ok:=Hd ok;replace ho:=Hd ho;have hth:=A2 w3 26;have hnv:=Bp w3 26 [.int .i64 0,.string ⟨#[]⟩,.int .i64 0,.float .f64 0,.bool false,.slice none 0 0] rfl;replace hth:=Hd hth;replace hnv:=Hd hnv;replace h3:=Hd h3;have tok1:True:=trivial;go_upto_region 26 with (have _t:=tok1;refine wpList_store_mid rfl 26 _ _ rfl w3.heap.size 0 _ rfl rfl hth.out Ab (one6 _ _ _ _ _ _ _ _) ?_;clear tok1 _t)
     generalize (w3.alloc (.cells #[Value.int .i64 0,.string ⟨#[]⟩,.int .i64 0,.float .f64 0,.bool false,.slice none 0 0] 26)).setCells w3.heap.size 0 [Value.int .i64 0,.string ⟨#[]⟩,.int .i64 0,.float .f64 0,.bool false,.slice none 0 0]=w5 at hnv ⊢;obtain ⟨hb5,hr6,_⟩:=hnv.out;have h5:=h3.out.move hb5;obtain ⟨G,hG⟩:∃G,G=w3.heap.size:=⟨_,rfl⟩;rw [<-hG] at hr6 ⊢;clear hnv hth h3 hb5;obtain ⟨w3,hw3⟩:∃w3,w3=w5:=⟨_,rfl⟩;rw [<-hw3] at h5 hr6 ⊢;clear hw3;have h3:=h5;clear h5;replace hr6:=Hd hr6;replace hG:=Hd hG;have hrR:(w3.setCells w.heap.size 0 [.int .i64 0,.string ⟨#[]⟩,.int .i64 0,.float .f64 0,.bool false,.slice none 0 0]).rangeAt w.heap.size 0 [.int .i64 0,.string ⟨#[]⟩,.int .i64 0,.float .f64 0,.bool false,.slice none 0 0]:=
       World.rangeAt_setCells_same _ _ _ _ (Ae (n:=6) h3.zero h3.blk rfl)
     have htC:=Ae (n:=6) h3.zero h3.blk rfl;have hbl:Below w.heap.size w (w3.setCells w.heap.size 0 [.int .i64 0,.string ⟨#[]⟩,.int .i64 0,.float .f64 0,.bool false,.slice none 0 0]):=
       h3.below.trans ((Fr.setCells (S:=fun k=>k=w.heap.size) (fun _=>rfl) _ _ _ (Fr.refl _ w3)).below h3.below.size (fun i hi h=>by omega))
     replace hrR:=Hd hrR;replace htC:=Hd htC;replace hbl:=Hd hbl;replace h3:=Hd h3
     go_wp2_with (first
       | (refine wpList_load_mid rfl 26 _ rfl G 0 rfl _ _ hr6.out Tryz.underlying26 rfl Ab ?_)
       | (refine wpList_store_mid rfl 26 _ _ rfl w.heap.size 0 _ rfl rfl htC.out Ab (one6 _ _ _ _ _ _ _ _) ?_))
     refine bodyPost_ret (Al (v:=.agg #[.int .i64 0,.string ⟨#[]⟩,.int .i64 0,.float .f64 0,.bool false,.slice none 0 0]) rfl rfl (run_loadVar_mid (P:=Tryz.prog) _ _ 0 26 _ _ hrR.out Tryz.underlying26 rfl Ab)) rfl ?_;exact ⟨_,_,rfl,hbl.out⟩
end Go.Proofs.YtagkgfniihiinaaGreatDoor
