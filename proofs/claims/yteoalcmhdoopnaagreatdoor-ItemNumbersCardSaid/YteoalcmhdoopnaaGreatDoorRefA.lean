/- The document's numbers as text: the number of digits, noughts, the layout. -/
import Derived.Test.YteoalcmhdoopnaaGreatDoorFtoaP
import Derived.Test.YteoalcmhdoopnaaGreatDoorJ38
import Derived.Test.YteoalcmhdoopnaaGreatDoorTx01
import Derived.Test.YteoalcmhdoopnaaGreatDoorRSums
import Derived.Test.YteoalcmhdoopnaaGreatDoorRNamL
namespace Go.Proofs.YteoalcmhdoopnaaGreatDoor
open Go.RowKit
theorem sparse_anyB {s:ByteArray} {r S:Nat} {w:World} (hs:s.size<=1000) (hR:Rng w) (h:Calls Tryz.prog 88 #[.string s] w fun e w' => e=.returned (.tuple #[.float .f64 (S+r),.int .i64 (s.size:Int),A4 r])/\Below w.heap.size w w') :
   Calls Tryz.prog 42 #[.string s,.int .i64 64] w fun e w' => ∃er,e=.returned (.tuple #[.float .f64 (S+r),er])/\((r≠9218868437227405312/\er=.nilIface)\/(r=9218868437227405312/\∃N,er=.iface 107 (.pointer (some ⟨N,0,none⟩))))/\Below w.heap.size w w' := by
 by_cases hr:r=9218868437227405312
 · have he:A4 r=.iface 106 (.int .i64 1):=if_pos hr
   rw [he] at h;obtain ⟨R,hRR⟩:∃R,R=S+r:=⟨_,rfl⟩;rw [<-hRR] at h ⊢;have h2:Calls Tryz.prog 72 #[.string s,.int .i64 64] w fun e w' => e=.returned (.tuple #[.float .f64 R,.int .i64 (s.size:Int),.iface 106 (.int .i64 1)])/\Below w.heap.size w w' := by
     replace h:=Hd h;clear hr hRR he
     go_enter Tryz.func72,Tryz.ntmps72
     go_wp2_with fail
     refine h.out.mono ?_;rintro e w' ⟨rfl,hww⟩;go_wp2;exact bodyPost_ret (v:=.tuple #[.float .f64 R,.int .i64 (s.size:Int),.iface 106 (.int .i64 1)]) (by simp [results,Tryz.results72,go_sem]) rfl ⟨rfl,hww⟩
   have h3:Calls Tryz.prog 57 #[.string s,.int .i64 64] w fun e w' => e=.returned (.tuple #[.float .f64 R,.iface 106 (.int .i64 1)])/\Below w.heap.size w w' := by
     replace h2:=Hd h2;clear h hr hRR he;have hbs:((s.size:Int) != (s.size:Int))=false:=by simp
     go_enter Tryz.func57,Tryz.ntmps57
     go_wp2_with fail
     refine h2.out.mono ?_;rintro e w' ⟨rfl,hww⟩;go_wp2
     go_ret2
     exact ⟨rfl,hww⟩
   replace hR:=Hd hR;have hr' := Hd hr;replace h3:=Hd h3;clear h h2 hr hRR he
   go_enter Tryz.func42,Tryz.ntmps42
   go_wp2_with fail
   refine h3.out.mono ?_;rintro e w1 ⟨rfl,hb1⟩;obtain ⟨te,pe,hv⟩:=(hR.out.below hb1).rng;have ht:=Tryz.strconv_toError_range ⟨#[80,97,114,115,101,70,108,111,97,116]⟩ s 0 64 (.iface te pe) w1 (by omega) hv (.inr ⟨te,pe,rfl⟩);replace hb1:=Hd hb1;replace ht:=Hd ht;clear hv;go_wp2_with fail
   refine ht.out.mono ?_;rintro e w2 ⟨N,rfl,_,_,hb⟩;go_wp2
   go_ret2
   exact ⟨_,rfl,.inr ⟨hr'.out,N,rfl⟩,hb1.out.trans (hb.mono hb1.out.size)⟩
 · have he:A4 r=.nilIface:=if_neg hr
   rw [he] at h;exact (sparse_okB h).mono fun e w' ⟨a,b⟩=>⟨_,a,.inl ⟨hr,rfl⟩,b⟩
def itoaTab (n:Nat):Bool:=decide (capE (Lib.decDigits n)=n)
theorem itoa_tab:allN 1000 itoaTab=true:=by decide +kernel
theorem exp_itoa (q:Int) (h:q.natAbs<1000):ExpAt (101 :: Lib.itoa q) q:=by
 have h1:capE (Lib.decDigits q.natAbs)=q.natAbs:=of_decide_eq_true (Bu itoa_tab q.natAbs h);have hne:Lib.decDigits q.natAbs≠[]:=fun e=>by
   have:=Lib.decDigits_length q.natAbs;rw [e] at this;have h2:1<=Lib.nDigits q.natAbs:=by
     by_cases h9:q.natAbs<10
     · rw [Lib.nDigits_small h9];exact Nat.le_refl _
     · rw [Lib.nDigits_big (by omega)];omega
   simp at this;omega
 have hd:=Br q.natAbs;unfold Lib.itoa;by_cases h0:q<0
 · rw [if_pos h0]
   have:=ExpAt.minus hne hd;rw [h1,show (-((q.natAbs:Nat):Int))=q by omega] at this;exact this
 · rw [if_neg h0]
   have:=ExpAt.bare hne hd;rw [h1,show ((q.natAbs:Nat):Int)=q by omega,show q.natAbs=q.toNat by omega] at this;exact this
theorem digits_txt {s:ByteArray} {d:Nat} {q:Int} (hd:0<d) (hn:Lib.nDigits d<=17) (hq:q.natAbs<1000) (hs:s.data.toList=Lib.decDigits d++101 :: Lib.itoa q) (hz:s.size<=1000) :
   FTxt s false false (Lib.decDigits d) (Lib.decDigits d).length q/\Ak (Lib.decDigits d)=d/\Az (Lib.decDigits d)=false/\expF false (Lib.decDigits d) (Lib.decDigits d).length q=q:=by
 obtain ⟨c,T,hc,hc48⟩:=D5 hd
 have hl:(c :: T).length<=18:=by rw [<-hc,Lib.decDigits_length];omega
 obtain ⟨m1,m2,m3⟩:=mant_form (a:=0) (k:=0) hc48 hl
 rw [List.replicate_zero,List.nil_append,List.append_nil,<-hc] at m1 m2 m3
 rw [Nat.zero_min,Nat.pow_zero,Nat.mul_one,B1] at m2
 have hne:Lib.decDigits d≠[]:=by rw [hc];simp
 obtain ⟨t1,_⟩:=txt_form (s:=s) (A:=Lib.decDigits d) (F:=[]) (fr:=false) (neg:=false) (X:=101 :: Lib.itoa q) (x:=q) (by rw [hs];rfl) hz hne (Br d) (fun _=>rfl) (fun c hc=>by cases hc) (exp_itoa q hq)
 rw [List.append_nil] at t1
 refine ⟨t1,m2,m3,?_⟩
 unfold expF
 rw [m2,if_neg (by omega),m1]
 rw [hc] at *
 simp only [Bool.false_eq_true,if_false]
 omega
theorem itoa_len3 (q:Int) (h:q.natAbs<1000):(Lib.itoa q).length<=30:=by
 have:=Lib.itoa_length_le q (by omega) (by omega);omega
set_option maxRecDepth 100000 in
set_option maxHeartbeats 1600000 in
theorem parsed_any {s:ByteArray} {d:Nat} {x q:Int} (hs:s.data.toList=Lib.decDigits d) (hd:0<d) (hn:Lib.nDigits d<=17) (hx:x=q+(Lib.nDigits d:Int) - 1) (q0:-345<=q) (q1:q<=310) {w:World} (hP:Par w) (hF:Flo w) (hR:Rng w) :
   Calls Tryz.prog 37 #[.string s,.int .i64 x] w fun e w' => ∃R,InI R (decA d q) (Ah q)/\e=.returned (.float .f64 (min R 9218868437227405312))/\Below w.heap.size w w' := by
 have hsz:s.size=Lib.nDigits d:=by rw [Bm,hs,Lib.decDigits_length]
 have hT:=Fv q (by omega) (by omega)
 have hl:=itoa_len3 q (by omega)
 have hiz:(Cp q).size<=30:=by show (Lib.itoa q).toArray.size<=30;simpa using hl
 have e1:(⟨#[101]⟩:ByteArray).size=1:=rfl
 obtain ⟨t,ht⟩:∃t,t=s++(⟨#[101]⟩:ByteArray)++Cp q:=⟨_,rfl⟩
 have htz:t.size<=1000:=by rw [ht,ByteArray.size_append,ByteArray.size_append];omega
 have htl:t.data.toList=Lib.decDigits d++101 :: Lib.itoa q:=by
   rw [ht,ByteArray.data_append,ByteArray.data_append,Array.toList_append,Array.toList_append,hs];simp [Cp]
 obtain ⟨f1,f2,f3,f4⟩:=digits_txt hd hn (by omega) htl htz
 have hd18:d<18446744073709551616:=by
   have h1:=(Lib.lt_pow_nDigits d);have h2:(10:Nat) ^ Lib.nDigits d<=10 ^ 17:=Nat.pow_le_pow_right (by decide) hn;have h3:(10:Nat) ^ 17<18446744073709551616:=by decide
   omega
 have hA:∀w', Below w.heap.size w w' -> Calls Tryz.prog 42 #[.string t,.int .i64 64] w' fun e w2=>∃R er,InI R (decA d q) (Ah q)/\e=.returned (.tuple #[.float .f64 (min R 9218868437227405312),er])/\Below w'.heap.size w' w2:=fun w' hb=>by
   have h1:=atof_mid f1 (by rw [f2];exact hd) (by rw [f2];exact hd18) f3 f4 q0 q1 (hP.below hb) (hF.below' hb).pows;rw [f2] at h1;have h2:Calls Tryz.prog 88 #[.string t] w' fun e w2=>∃R,InI R (decA d q) (Ah q)/\e=.returned (.tuple #[.float .f64 (0+min R 9218868437227405312),.int .i64 (t.size:Int),A4 (min R 9218868437227405312)])/\Below w'.heap.size w' w2:=h1;obtain ⟨R,hR1,_⟩:=Di (d:=d) (p:=q) hd hd18 (by omega) (by omega);have h3:Calls Tryz.prog 88 #[.string t] w' fun e w2=>e=.returned (.tuple #[.float .f64 (0+min R 9218868437227405312),.int .i64 (t.size:Int),A4 (min R 9218868437227405312)])/\Below w'.heap.size w' w2:=by
     refine h2.mono ?_;rintro e w2 ⟨R', hR', he,hb'⟩;have:R' = R:=hR'.uniq (Nat.pow_pos (by decide)) hR1;subst this;exact ⟨he,hb'⟩
   refine (sparse_anyB (S:=0) htz (hR.below hb) h3).mono ?_;rintro e w2 ⟨er,he,_,hb2⟩;rw [Nat.zero_add] at he;exact ⟨R,er,hR1,he,hb2⟩
 have hlen:x - (s.size:Int)+1=q:=by rw [hsz];omega
 have hz1:¬9223372036854775807<s.size+1:=by omega
 have hz2:¬9223372036854775807<s.size+1+(Cp q).size:=by omega
 have hx9:-1000<=x/\x<=1000:=by omega
 have hsz9:(s.size:Int)<=17:=by omega
 obtain ⟨I,hI⟩:∃I,I=Cp q:=⟨_,rfl⟩
 rw [<-hI] at ht hT hz2 hiz
 replace ht:=Hd ht
 replace hT:=Hd hT
 replace hA:=Hd hA
 replace hI:=Hd hI
 replace htl:=Hd htl
 replace hx:=Hd hx
 replace hsz:=Hd hsz
 replace hs:=Hd hs
 clear f1 f2 f3 f4 hl
 go_enter Tryz.func37,Tryz.ntmps37
 go_wp2_with fail
 refine (hT.out _).mono ?_
 rintro e w1 ⟨rfl,hb1⟩
 replace hb1:=Hd hb1
 go_wp2_with fail
 rw [show s++(⟨#[101]⟩:ByteArray)++I=t from ht.out.symm]
 refine (hA.out w1 hb1.out).mono ?_
 rintro e w2 ⟨R,er,hR9,rfl,hb2⟩
 replace hR9:=Hd hR9
 go_wp2
 go_ret
 exact ⟨R,hR9.out,rfl,hb1.out.trans (hb2.mono hb1.out.size)⟩
set_option maxRecDepth 100000 in
set_option maxHeartbeats 1600000 in
theorem zeros_any (n:Nat) (h:n<=1000) (w:World):Calls Tryz.prog 56 #[.int .i64 (n:Int)] w fun e w' => ∃t:ByteArray,e=.returned (.string t)/\t.data.toList=List.replicate n 48/\w' = w:=by
 have h9:(n:Int)<=1000:=by omega
 go_enter Tryz.func56,Tryz.ntmps56
 go_wp2_with fail
 go_loopw [3,4] (fun s i wr=>∃(j:Nat) (b:ByteArray),j<=n/\s=.string b/\i=.int .i64 (j:Int)/\b.data.toList=List.replicate j 48/\wr=w) (fun _ i _=>n - (intOf i).toNat)
 case atStart=>exact ⟨0,⟨#[]⟩,Nat.zero_le _,rfl,rfl,rfl,rfl⟩
 case round=>
   obtain ⟨j,b,hj,rfl,rfl,hb,hww⟩:=hrel;obtain rfl:=hww.symm;clear hww;have hbz:b.size=j:=by rw [Bm,hb,List.length_replicate]
   by_cases hlt:j<n
   · have hlti:(j:Int)<(n:Int):=by omega
     have hz1:¬9223372036854775807<b.size+1:=by omega
     have hb2:(b++(⟨#[48]⟩:ByteArray)).data.toList=List.replicate (j+1) 48:=by
       rw [ByteArray.data_append,Array.toList_append,hb,List.replicate_succ']
     replace hb2:=Hd hb2;replace hb:=Hd hb;replace hbz:=Hd hbz;go_wp2
     go_roundw
     case rel=>exact ⟨j+1,_,by omega,rfl,by go_num,hb2.out,by first | rfl | trivial⟩
     case measure=>simp [intOf];omega
   · have hlti:¬(j:Int)<(n:Int):=by omega
     have hjn:j=n:=by omega
     replace hb:=Hd hb;replace hbz:=Hd hbz;replace hjn:=Hd hjn;go_wp2;go_ret;exact ⟨b,rfl,by rw [hb.out,hjn.out],rfl⟩
end Go.Proofs.YteoalcmhdoopnaaGreatDoor
