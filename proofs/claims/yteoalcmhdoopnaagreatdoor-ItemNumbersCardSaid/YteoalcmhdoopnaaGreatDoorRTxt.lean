/- real.Text, at every number. -/
import Derived.Test.YteoalcmhdoopnaaGreatDoorReal
import Derived.Test.YteoalcmhdoopnaaGreatDoorRIs
import Derived.Lib.SmallJoins
namespace Go.Proofs.YteoalcmhdoopnaaGreatDoor
open Go.RowKit
theorem atoi_exp:∀k:Fin 1999,Lib.atoi (expL ((k.val:Int) - 999))=some ((k.val:Int) - 999):=by decide +kernel
theorem atoi_expL {x:Int} (h0:-999<=x) (h1:x<=999):Lib.atoi (expL x)=some x:=by
 have:=atoi_exp ⟨(x+999).toNat,by omega⟩;simp only at this;rw [show (((x+999).toNat:Nat):Int) - 999=x by omega] at this;exact this
theorem index_past {A E:List UInt8} {c:UInt8} (h:∀b∈A,b≠c):Lib.indexByte (A++c :: E) c=A.length:=by
 induction A with
 | nil=>simp [Lib.indexByte]
 | cons a A ih=>
   have h1:=ih (fun b hb=>h b (List.mem_cons_of_mem _ hb));have h2:(a == c)=false:=by simpa using h a (List.mem_cons_self ..)
   rw [List.cons_append,Lib.indexByte,h2,h1];have h3:((A.length:Int) == -1)=false:=by simp
   rw [h3];simp
def C7 (neg:Bool) (D:List UInt8):List UInt8:=At neg++[D.headD 48]++(if 1<D.length then 46 :: D.tail else [])
theorem effE_front (neg:Bool) (D:List UInt8) (dp:Int):effE neg D dp=C7 neg D++101 :: expL (if D=[] then 0 else dp - 1):=by
 unfold effE C7;simp
theorem front_len (neg:Bool) (D:List UInt8):(C7 neg D).length<=3+D.length:=by
 unfold C7;rw [List.length_append,List.length_append];have h1:(At neg).length<=1:=by unfold At;split<;>simp
 have h2:(if 1<D.length then 46 :: D.tail else []:List UInt8).length<=1+D.length:=by split<;>simp<;>omega
 simp only [List.length_singleton];omega
theorem front_ne {neg:Bool} {D:List UInt8} (hd:∀c∈D,isD c=true):∀b∈C7 neg D,b≠101:=by
 have key:∀c:UInt8,isD c=true->c≠101:=fun c h e=>by rw [e] at h;revert h;decide
 intro b hb;unfold C7 at hb;rw [List.mem_append,List.mem_append] at hb;rcases hb with (hb | hb) | hb
 · unfold At at hb
   split at hb
   · rw [List.mem_singleton] at hb;rw [hb];decide
   · simp at hb
 · rw [List.mem_singleton] at hb
   rw [hb];cases D with
   | nil=>decide
   | cons a l=>exact key a (hd a (List.mem_cons_self ..))
 · split at hb
   · rw [List.mem_cons] at hb
     rcases hb with hb | hb
     · rw [hb];decide
     · exact key b (hd b (List.mem_of_mem_tail hb))
   · simp at hb
theorem digL_isD (r:Nat):∀c∈digL r,isD c=true:=by
 intro c hc;unfold digL at hc;split at hc
 · simp at hc
 · exact Br _ c (stripZ_mem hc)
theorem De {r:Nat} (hr:r<9218868437227405312):-400<=Au r/\Au r<=400:=by
 unfold Au;split
 · omega
 · obtain ⟨a,b,c,d⟩:=Cw (r:=r) (by omega) hr
   have:=Lib.nDigits_le20 (Ae r).1 (by omega);have:=Lib.nDigits_pos (Ae r).1;omega
theorem digL_len (r:Nat) (hr:r<9218868437227405312):(digL r).length<=20:=by
 unfold digL;split
 · simp
 · obtain ⟨a,b,c,d⟩:=Cw (r:=r) (by omega) hr
   have:=Ef (Lib.decDigits (Ae r).1);rw [Lib.decDigits_length] at this;have:=Lib.nDigits_le20 (Ae r).1 (by omega);omega
def expN (r:Nat):Int:=if digL r=[] then 0 else Au r - 1
theorem Gr {n:Nat} (h:nanF n=true):Bz n=[110,97,110]:=if_pos h
theorem realL_inf {n:Nat} (h:nanF n=false) (h2:n % 9223372036854775808=9218868437227405312):Bz n=At (decide (9223372036854775808<=n))++[105,110,102]:=by
 unfold Bz;rw [if_neg (by simp [h]),if_pos h2]
theorem realL_num {n:Nat} (h:nanF n=false) (h2:n % 9223372036854775808≠9218868437227405312):Bz n =
   if expN (n % 9223372036854775808) < -4\/21<=expN (n % 9223372036854775808) then effE (decide (9223372036854775808<=n)) (digL (n % 9223372036854775808)) (Au (n % 9223372036854775808))
   else effF (decide (9223372036854775808<=n)) (digL (n % 9223372036854775808)) (Au (n % 9223372036854775808)):=by
 unfold Bz;rw [if_neg (by simp [h]),if_neg h2];rfl
set_option maxRecDepth 100000 in
set_option maxHeartbeats 1600000 in
theorem realText_any {w:World} {n:Nat} (hn:n<18446744073709551616) (hF:Flo w) :
   Calls Tryz.prog 33 #[.float .f64 n] w fun e w' => ∃t:ByteArray,e=.returned (.string t)/\t.data.toList=Bz n/\Below w.heap.size w w' := by
 have h1:=isNaN_any hn
 cases hnan:nanF n with
 | true=>
   have hL:=Gr hnan;rw [hnan] at h1;clear hnan;replace hF:=Hd hF;replace h1:=Hd h1;replace hL:=Hd hL
   go_enter Tryz.func33,Tryz.ntmps33
   go_wp2_with fail
   refine (h1.out _).mono ?_;rintro e w' ⟨rfl,hww⟩;obtain rfl:=hww.symm;clear hww;go_wp2;go_ret;exact ⟨_,rfl,hL.out.symm,Below.refl _ _⟩
 | false=>
   have h2:=isInf_pos hn hnan;have h3:=isInf_neg hn hnan;rw [hnan] at h1;by_cases hinf:n % 9223372036854775808=9218868437227405312
   · have hL:=realL_inf hnan hinf
     replace hF:=Hd hF;replace h1:=Hd h1;by_cases hp:n=9218868437227405312
     · rw [decide_eq_true hp] at h2
       have hL2:Bz n=[105,110,102]:=by rw [hL,decide_eq_false (by omega)];rfl
       replace hL2:=Hd hL2;replace h2:=Hd h2;clear h3 hp hL hinf hnan
       go_enter Tryz.func33,Tryz.ntmps33
       go_wp2_with fail
       refine (h1.out _).mono ?_;rintro e w' ⟨rfl,hww⟩;obtain rfl:=hww.symm;clear hww;go_wp2_with fail
       refine (h2.out _).mono ?_;rintro e w' ⟨rfl,hww⟩;obtain rfl:=hww.symm;clear hww;go_wp2;go_ret;exact ⟨_,rfl,hL2.out.symm,Below.refl _ _⟩
     · rw [decide_eq_false hp] at h2
       have hp2:n=18442240474082181120:=by omega
       rw [decide_eq_true hp2] at h3;have hL2:Bz n=[45,105,110,102]:=by rw [hL,decide_eq_true (by omega)];rfl
       replace hL2:=Hd hL2;replace h2:=Hd h2;replace h3:=Hd h3;clear hp hp2 hL hinf hnan
       go_enter Tryz.func33,Tryz.ntmps33
       go_wp2_with fail
       refine (h1.out _).mono ?_;rintro e w' ⟨rfl,hww⟩;obtain rfl:=hww.symm;clear hww;go_wp2_with fail
       refine (h2.out _).mono ?_;rintro e w' ⟨rfl,hww⟩;obtain rfl:=hww.symm;clear hww;go_wp2_with fail
       refine (h3.out _).mono ?_;rintro e w' ⟨rfl,hww⟩;obtain rfl:=hww.symm;clear hww;go_wp2;go_ret;exact ⟨_,rfl,hL2.out.symm,Below.refl _ _⟩
   · have hr:n % 9223372036854775808<9218868437227405312:=by
       unfold nanF at hnan;have:=of_decide_eq_false hnan;omega
     have hL:=realL_num hnan hinf;rw [decide_eq_false (by omega)] at h2 h3;obtain ⟨r,hre⟩:∃r,r=n % 9223372036854775808:=⟨_,rfl⟩;obtain ⟨nb,hnb⟩:∃nb:Bool,nb=decide (9223372036854775808<=n):=⟨_,rfl⟩;have hE:=sfmtE_any hn hr hF;have hFF:∀wz,Flo wz->_:=fun wz hz=>sfmtF_any (w:=wz) hn hr hz;rw [<-hre,<-hnb] at hL hE;rw [<-hre] at hr;have hpb:=De hr;obtain ⟨x,hx⟩:∃x,x=expN r:=⟨_,rfl⟩;have hx9:-401<=x/\x<=400:=by rw [hx];unfold expN;split<;>omega
     rw [<-hx] at hL;have hlen:=digL_len r hr;clear hinf hnan hpb;replace hF:=Hd hF;replace h1:=Hd h1;replace h2:=Hd h2;replace h3:=Hd h3;replace hE:=Hd hE;replace hFF:=Hd hFF;replace hL:=Hd hL;replace hre:=Hd hre;replace hnb:=Hd hnb;replace hx:=Hd hx
     go_enter Tryz.func33,Tryz.ntmps33
     go_wp2_with fail
     refine (h1.out _).mono ?_;rintro e w' ⟨rfl,hww⟩;obtain rfl:=hww.symm;clear hww;go_wp2_with fail
     refine (h2.out _).mono ?_;rintro e w' ⟨rfl,hww⟩;obtain rfl:=hww.symm;clear hww;go_wp2_with fail
     refine (h3.out _).mono ?_;rintro e w' ⟨rfl,hww⟩;obtain rfl:=hww.symm;clear hww;go_wp2_with fail
     refine hE.out.mono ?_;rintro e w1 ⟨t,rfl,ht,hb1⟩;have ht2:t.data.toList=C7 nb (digL r)++101 :: expL x:=by rw [ht,effE_front,hx.out];rfl
     obtain ⟨k,hk⟩:∃k:Nat,k=(C7 nb (digL r)).length:=⟨_,rfl⟩;have hk64:(k:Int)<=100:=by have:=front_len nb (digL r);omega
     have hix:=Tryz.strings_IndexByte t 101 w1;have hix2:Lib.indexByte t.data.toList (101:Int).toNat.toUInt8=(k:Int):=by
       rw [ht2,hk];exact index_past (front_ne (digL_isD r))
     rw [hix2] at hix;have htn:t.size=k+1+(expL x).length:=by
       have:t.size=t.data.toList.length:=by rw [Array.length_toList];rfl
       rw [this,ht2,hk];simp;omega
     have hel:=expL_len x;obtain ⟨t2,ht2e⟩:∃t2,t2=t.extract (k+1) t.size:=⟨_,rfl⟩;have ht2l:t2.data.toList=expL x:=by
       rw [ht2e,E4,ht2,hk];rw [show C7 nb (digL r)++101 :: expL x=(C7 nb (digL r)++[101])++expL x by simp];rw [show (C7 nb (digL r)).length+1=(C7 nb (digL r)++[101]).length by simp,List.drop_left];refine List.take_of_length_le ?_;rw [htn,hk];simp
     have hat:=Tryz.strconv_Atoi t2 x (by
       have:t2.size=t2.data.toList.length:=by rw [Array.length_toList];rfl
       rw [this,ht2l];omega) (by rw [ht2l];exact atoi_expL (by omega) (by omega))
     replace ht:=Hd ht;replace ht2:=Hd ht2;replace hk:=Hd hk;replace hix:=Hd hix;replace hat:=Hd hat;replace ht2l:=Hd ht2l;clear hix2;have hkt:(k:Int)+1<=(t.size:Int):=by omega
     have hkt0:(0:Int)<=(k:Int)+1:=by omega
     replace ht2e:=ht2e.symm;have hF1:Flo w1:=⟨hF.out.pows.below hb1 hF.out.pows.lt,Go.Joins.tab_stays A8 hF.out.tens hb1 (Nat.le_refl _)⟩;replace hF1:=Hd hF1;replace hb1:=Hd hb1;clear htn hel;go_wp2_with fail
     refine hix.out.mono ?_;rintro e w' ⟨rfl,hww⟩;obtain rfl:=hww.symm;clear hww;go_wp2_with fail
     refine (hat.out _).mono ?_;rintro e w2 ⟨rfl,tb,hw2⟩;have hb12:Below w1.heap.size w1 w2:=by rw [hw2];exact Go.Joins.below_bytesWorld _ _ _ _ (Nat.le_refl _)
     have hb02:Below w.heap.size w w2:=hb1.out.trans (hb12.mono hb1.out.size);have hF2:Flo w2:=⟨hF1.out.pows.below hb12 hF1.out.pows.lt,Go.Joins.tab_stays A8 hF1.out.tens hb12 (Nat.le_refl _)⟩;replace hb02:=Hd hb02;replace hF2:=Hd hF2;clear hw2 hb12 hat hix;by_cases hx4:x < -4
     · have hLe:=hL.out
       rw [if_pos (.inl hx4),<-ht.out] at hLe;replace hLe:=Hd hLe;go_wp2_with fail
       go_ret;exact ⟨t,rfl,hLe.out.symm,hb02.out⟩
     · by_cases hx21:21<=x
       · have hLe:=hL.out
         rw [if_pos (.inr hx21),<-ht.out] at hLe;replace hLe:=Hd hLe;go_wp2_with fail
         go_ret;exact ⟨t,rfl,hLe.out.symm,hb02.out⟩
       · have hLe:=hL.out
         rw [if_neg (by omega)] at hLe;replace hLe:=Hd hLe;have hf:=hFF.out w2 hF2.out;rw [<-hre.out,<-hnb.out] at hf;replace hf:=Hd hf;go_wp2_with fail
         refine hf.out.mono ?_;rintro e w3 ⟨t3,rfl,ht3,hb3⟩;have hb03:=hb02.out.trans (hb3.mono hb02.out.size);replace ht3:=Hd ht3;go_wp2_with fail
         go_ret;exact ⟨t3,rfl,ht3.out.trans hLe.out.symm,hb03⟩
end Go.Proofs.YteoalcmhdoopnaaGreatDoor
