/- ItemReals: its walk. -/
import Derived.Test.YteoalcmhdoopnaaGreatDoorItRea2
import Derived.Test.YteoalcmhdoopnaaGreatDoorJ48
import Derived.Test.YteoalcmhdoopnaaGreatDoorItAlive
namespace Go.Proofs.YteoalcmhdoopnaaGreatDoor
open Go.RowKit
theorem plain_of {s:ByteArray} {neg:Bool} {c:UInt8} {l:List UInt8} (h:s.data.toList=(if neg then [45] else [])++c :: l) (hc:isD c=true):Plain s:=by
 obtain ⟨a,b,d⟩:=num_head h hc;exact ⟨a,b,d⟩
theorem numR_zero:numR false [48] 1 0=0:=by
 unfold numR;rw [if_pos (by decide +kernel)]
theorem parO_text {n:Nat} (hn:n<18446744073709551616) {s:ByteArray} (hs:s.data.toList=B8 n):ParO s (some (Bn n)):=by
 cases hnan:nanF n with
 | true=>
   rw [Gd hnan] at hs;rw [Fb hs,(F9 n).2 hnan];exact .nan
 | false=>
   have hc:Bn n=n:=by unfold Bn;rw [hnan];rfl
   rw [realL_bare hnan] at hs;have hsp:n=sgB (decide (9223372036854775808<=n))+n % 9223372036854775808:=word_split n hn;obtain ⟨sg,hsg⟩:∃sg,sg=decide (9223372036854775808<=n):=⟨_,rfl⟩;obtain ⟨r,hr⟩:∃r,r=n % 9223372036854775808:=⟨_,rfl⟩;have hr9:r<=9218868437227405312:=by
     unfold nanF at hnan;have:=of_decide_eq_false hnan;omega
   rw [<-hsg,<-hr] at hsp hs;rw [hc,hsp];clear hc hnan hsg hsp hr;rcases Nat.eq_or_lt_of_le hr9 with h | h
   · subst h
     have hb:Df 9218868437227405312=[105,110,102]:=by unfold Df;rw [if_pos rfl]
     rw [hb] at hs;rw [Fb hs];cases sg
     · exact .inf
     · exact .minf
   · rcases Nat.eq_zero_or_pos r with h0 | h0
     · subst h0
       rw [bare_zero] at hs;have hd0:Lib.decDigits 0=[48]:=by decide +kernel
       have hf:=whole_form (s:=s) (neg:=sg) (n:=0) (by rw [hs,hd0]) (by decide +kernel);rw [hd0,show Lib.nDigits 0=1 by decide +kernel] at hf;have hz:s.size<=64:=by rw [Ad,hs];cases sg<;>simp [Ap]
       have hrt:Ax s.data.toList=true:=by
         rw [hs];cases sg<;>decide +kernel
       have hp:Plain s:=plain_of (neg:=sg) (c:=48) (l:=[]) (by rw [hs];rfl) (by decide);have:=ParO.num hp hz hrt hf (by rw [numR_zero];decide);rw [numR_zero] at this;exact this
     · obtain ⟨hz,d,L,m,x,hR⟩:=text_reads h0 h hs
       obtain ⟨c,l,h1,hc⟩:=hR.head;have hnum:numR d L m x=r:=by
         obtain ⟨R,hI,hPn⟩:=Dg hR.pos hR.lt (p:=expF d L m x) (by have:=hR.low;omega) (by have:=hR.high;omega);have hRr:R=r:=hI.uniq (Nat.pow_pos (by decide)) hR.near;unfold numR;have hlow:=hR.low;have hhigh:=hR.high;have hpos:=hR.pos;rw [if_neg (by omega),if_neg (by omega),if_neg (by omega),if_neg (by rw [hR.whole];decide),hPn,hRr,Nat.min_eq_left (Nat.le_of_lt h)]
       have:=ParO.num (plain_of h1 hc) (by omega) hR.right hR.txt (by rw [hnum];omega);rw [hnum] at this;exact this
theorem sum_bad {a b:Nat} (hb:b<18446744073709551616) (ha9:a<18446744073709551616) (ha:badF a=false) (h:badF b=true):badF (sumV a b)=true:=by
 have hadd:floatBits .add .f64 a b=((Ieee.double.read a).sum (Ieee.double.read b)).map Ieee.double.write:=rfl;unfold badF at ha h;rw [Bool.or_eq_false_iff] at ha;rw [Bool.or_eq_true] at h;rcases h with h | h
 · obtain ⟨s,t,e⟩:=read_nan (n:=b) (of_decide_eq_true h)
   have:floatBits .add .f64 a b=none:=by rw [hadd,e];cases Ieee.double.read a<;>rfl
   unfold sumV;rw [this];exact bad_nan
 · have e:=Ec (of_decide_eq_true h)
   have na:=of_decide_eq_false ha.1;have ia:=of_decide_eq_false ha.2;obtain ⟨m,p,e2,_⟩:=B6 (n:=a) (by omega);have:floatBits .add .f64 a b=some (Ieee.double.write (.infinity (negF b))):=by rw [hadd,e,e2];rfl
   unfold sumV;rw [this];cases negF b<;>decide +kernel
theorem F4 {x:Nat} (hx:x<18446744073709551616):∃m:Nat,bits .and .u64 (x:Int) 9218868437227405312=(m:Int)/\m<=9218868437227405312/\(((m:Int) == 9218868437227405312)=decide (9218868437227405312<=x % 9223372036854775808)):=by
 have h1:=Aw (x:=x) (y:=9218868437227405312) hx (by decide);have e:(9218868437227405312:Nat)=2047 * 2 ^ 52:=by decide
 have hd:(x &&& 9218868437227405312) / 2 ^ 52=x / 2 ^ 52 % 2048:=by
   rw [Nat.and_div_two_pow,e,Nat.mul_div_cancel _ (Nat.two_pow_pos 52),show (2047:Nat)=2 ^ 11 - 1 by decide,Nat.and_two_pow_sub_one_eq_mod]
 have hm:(x &&& 9218868437227405312) % 2 ^ 52=0:=by
   rw [Nat.and_mod_two_pow,e,Nat.mul_mod_left,Nat.and_zero]
 have h2:=Nat.div_add_mod (x &&& 9218868437227405312) (2 ^ 52);rw [hd,hm] at h2;obtain ⟨m,hmm⟩:∃m,m=x &&& 9218868437227405312:=⟨_,rfl⟩;rw [<-hmm] at h1 h2;have e52:(2:Nat) ^ 52=4503599627370496:=by decide
 rw [e52] at h2;refine ⟨m,h1,by omega,?_⟩;by_cases h:9218868437227405312<=x % 9223372036854775808
 · rw [decide_eq_true h,beq_iff_eq];omega
 · rw [decide_eq_false h,beq_eq_false_iff_ne];omega
theorem Ex (s:Nat) (hs:s<18446744073709551616):Bn s<18446744073709551616/\decide (9218868437227405312<=Bn s % 9223372036854775808)=badF s:=by
 unfold Bn badF;cases h:nanF s with
 | true=>
   rw [if_pos rfl,Bool.true_or];exact ⟨by decide,by decide⟩
 | false=>
   rw [if_neg (by decide),Bool.false_or];refine ⟨hs,?_⟩;unfold nanF at h;have h9:=of_decide_eq_false h;by_cases h2:s % 9223372036854775808=9218868437227405312
   · rw [decide_eq_true h2,decide_eq_true (by omega)]
   · rw [decide_eq_false h2]
     exact decide_eq_false (by omega)
theorem sum_run {a b r:Nat} (h:floatBits .add .f64 a b=some r\/(floatBits .add .f64 a b=none/\nanF r=true)):badF r=badF (sumV a b)/\(badF (sumV a b)=false->r=sumV a b):=by
 rcases h with h | ⟨h,hn⟩
 · have:sumV a b=r:=by unfold sumV;rw [h];rfl
   rw [this];exact ⟨rfl,fun _=>rfl⟩
 · have e1:sumV a b=nanC:=by unfold sumV;rw [h];rfl
   have e2:badF r=true:=by unfold badF;rw [hn];rfl
   rw [e1,e2,bad_nan];exact ⟨rfl,fun h=>by cases h⟩
theorem Dw {a:Nat} (h:badF a=false):Bn a=a:=by
 unfold badF at h;rw [Bool.or_eq_false_iff] at h;unfold Bn;rw [h.1];rfl
set_option maxRecDepth 100000 in
set_option maxHeartbeats 6400000 in
theorem itemReals_any {a b:Nat} (ha:a<18446744073709551616) (hb:b<18446744073709551616) (w:World) (hN:Nums w) (hY:Lay w) (hF:Flo w) :
   Calls Tryz.prog 4 #[.int .u64 (a:Int),.int .u64 (b:Int)] w fun e w' => e=.returned (.bool true)/\Below w.heap.size w w' := by
 have hal:=alive09_any w hN
 have f1:∀w,(callFunc 9 #[.int .u64 (a:Int)]).run Tryz.prog w=.ok (.value (.float .f64 a)) w:=fun w=>Bt a w
 have f2:∀w,(callFunc 9 #[.int .u64 (b:Int)]).run Tryz.prog w=.ok (.value (.float .f64 b)) w:=fun w=>Bt b w
 obtain ⟨T,hT⟩:∃T:ByteArray,T=⟨(B8 a).toArray⟩:=⟨_,rfl⟩
 have htxA:∀W,Below w.heap.size w W->Calls Tryz.prog 15 #[.float .f64 a] W fun e w' => e=.returned (.string T)/\Below W.heap.size W w' := fun W hW=>by
   rw [hT];exact refText_any ha (hY.below hW).par (hF.below hW) (hY.below hW).rng
 have hTl:T.data.toList=B8 a:=by rw [hT]
 have hpo:=parO_text ha hTl
 obtain ⟨ca9,cab⟩:=Ex a ha
 have hca:=Bz ha
 obtain ⟨ma,hma,_,hma2⟩:=F4 ca9
 rw [cab] at hma2
 obtain ⟨ca,hcae⟩:∃ca,ca=Bn a:=⟨_,rfl⟩
 rw [<-hcae] at hca hma
 have hpar:∀W,Below w.heap.size w W->Calls Tryz.prog 30 #[.string T] W fun e w' => e=ParA (some (Bn a))/\Below W.heap.size W w' := fun W hW=>real_all hpo (hY.below hW)
 replace hal:=Hd hal
 replace htxA:=Hd htxA
 replace hT:=Hd hT
 replace hTl:=Hd hTl
 replace hca:=Hd hca
 replace hcae:=Hd hcae
 clear hpo
 cases hba:badF a with
 | true=>
   have hcb:badF (Bn a)=true:=by
     unfold Bn;cases h:nanF a with
     | true=>exact bad_nan
     | false=>exact hba
   have harA:∀W,Below w.heap.size w W->Calls Tryz.prog 12 #[.agg #[.int .i64 1,.string T,.slice none 0 0],.float .f64 b] W fun e w' => e=.returned (.tuple #[.agg #[.int .i64 1,.string T,.slice none 0 0],.string ⟨#[]⟩,.int .i64 93])/\Below W.heap.size W w' := fun W hW=>
     areal_wild T none 0 0 (Bn a) b W ca9 hcb (fun W2 h2=>hpar W2 (hW.trans (h2.mono hW.size)))
   obtain ⟨T1,hT1⟩:∃T1,T1=T:=⟨_,rfl⟩;have harA:∀W,Below w.heap.size w W->Calls Tryz.prog 12 #[.agg #[.int .i64 1,.string T,.slice none 0 0],.float .f64 b] W fun e w' => e=.returned (.tuple #[.agg #[.int .i64 1,.string T1,.slice none 0 0],.string ⟨#[]⟩,.int .i64 93])/\Below W.heap.size W w' := by rw [hT1];exact harA
   rw [hba] at hma2;replace harA:=Hd harA;replace hT1:=Hd hT1;clear hpar ca9 cab hcb hba hN hY hF ha hb
   go_enter Tryz.func4,Tryz.ntmps4
   go_wp2_with fail
   refine hal.out.mono ?_;rintro e w1 ⟨rfl,hb1⟩;have htx:=htxA.out w1 hb1;replace htx:=Hd htx;go_wp2_with fail
   refine htx.out.mono ?_;rintro e w2 ⟨rfl,hb2⟩;have hb02:=hb1.trans (hb2.mono hb1.size);have har:=harA.out w2 hb02;replace har:=Hd har;clear hb1 hb2;go_wp2_with fail
   refine har.out.mono ?_;rintro e w3 ⟨rfl,hb3⟩;have hb03:=hb02.trans (hb3.mono hb02.size);obtain ⟨W3,hW3⟩:∃W,W=w3.alloc (.cells #[.int .i64 1,.string T1,.slice none 0 0] 24):=⟨_,rfl⟩;have hbW3:Below w.heap.size w W3:=by rw [hW3];exact hb03.alloc hb03.size _
   have q1:W3.cell? ⟨w3.heap.size,1,none⟩=some (.string T1):=by rw [hW3,World.cell?_alloc_new];rfl
   clear hb3 hb02 hb03;obtain ⟨r1,w4,hr1,hl1,hb4,hc1⟩:=add_run a b W3;have hsr:=sum_run hc1;have hcs:=Bz hl1;obtain ⟨k1,k2⟩:=Ex r1 hl1;obtain ⟨m1,hm1,hm9,hm2⟩:=F4 k1;rw [k2,hsr.1] at hm2;obtain ⟨cs,hcse⟩:∃cs,cs=Bn r1:=⟨_,rfl⟩;rw [<-hcse] at hcs hm1;have hbW4:=hbW3.trans (hb4.mono hbW3.size);replace q1:=Aa hb4 q1;have hcsr:=hsr.2;have hwn:((cs:Int) == 9221120237041090561)=true->badF (sumV a b)=true:=fun h=>by
     rw [<-hsr.1,<-k2,<-hcse];have h9:cs=9221120237041090561:=by have:=eq_of_beq h;omega
     rw [h9];decide
   replace hcs:=Hd hcs;replace hW3:=Hd hW3;replace hbW4:=Hd hbW4;replace hcse:=Hd hcse;replace hcsr:=Hd hcsr;replace hwn:=Hd hwn;clear hl1 hc1 hsr k1 k2 hb4 hbW3 hm9;go_upto_region 5 with fail
   rw [<-hW3.out];go_wp2_with fail
   refine (hcs.out _).mono ?_;rintro e w' ⟨rfl,hww⟩;obtain rfl:=hww.symm;clear hww;cases hn1:((cs:Int) == 9221120237041090561) with
   | true=>
     go_wp2_with fail
     refine (hca.out _).mono ?_;rintro e w' ⟨rfl,hww⟩;obtain rfl:=hww.symm;clear hww;go_wp2;go_ret;exact ⟨rfl,hbW4.out⟩
   | false=>
     go_wp2_with fail
     refine (hca.out _).mono ?_;rintro e w' ⟨rfl,hww⟩;obtain rfl:=hww.symm;clear hww;go_wp2;go_ret;exact ⟨rfl,hbW4.out⟩
 | false=>
   rw [Dw hba] at hpar;rw [hba] at hma2;cases hws:badF (sumV a b) with
   | true=>
     have harA:∀W,Below w.heap.size w W->Calls Tryz.prog 12 #[.agg #[.int .i64 1,.string T,.slice none 0 0],.float .f64 b] W fun e w' => e=.returned (.tuple #[.agg #[.int .i64 1,.string T,.slice none 0 0],.string ⟨#[]⟩,.int .i64 21])/\Below W.heap.size W w' := fun W hW=>by
       have hwas:Was 1 T a W:=.inr ⟨rfl,fun W2 h2=>hpar W2 (hW.trans (h2.mono hW.size))⟩;cases hbb:badF b with
       | true=>exact areal_f 1 T none 0 0 a b W ha hb hba hbb hwas
       | false=>exact areal_over 1 T none 0 0 a b W ha hb hba hbb hws hwas
     obtain ⟨T1,hT1⟩:∃T1,T1=T:=⟨_,rfl⟩;have harA:∀W,Below w.heap.size w W->Calls Tryz.prog 12 #[.agg #[.int .i64 1,.string T,.slice none 0 0],.float .f64 b] W fun e w' => e=.returned (.tuple #[.agg #[.int .i64 1,.string T1,.slice none 0 0],.string ⟨#[]⟩,.int .i64 21])/\Below W.heap.size W w' := by rw [hT1];exact harA
     replace harA:=Hd harA;replace hT1:=Hd hT1;replace hws:=Hd hws;clear hpar ca9 cab hba hN hY hF ha hb
     go_enter Tryz.func4,Tryz.ntmps4
     go_wp2_with fail
     refine hal.out.mono ?_;rintro e w1 ⟨rfl,hb1⟩;have htx:=htxA.out w1 hb1;replace htx:=Hd htx;go_wp2_with fail
     refine htx.out.mono ?_;rintro e w2 ⟨rfl,hb2⟩;have hb02:=hb1.trans (hb2.mono hb1.size);have har:=harA.out w2 hb02;replace har:=Hd har;clear hb1 hb2;go_wp2_with fail
     refine har.out.mono ?_;rintro e w3 ⟨rfl,hb3⟩;have hb03:=hb02.trans (hb3.mono hb02.size);obtain ⟨W3,hW3⟩:∃W,W=w3.alloc (.cells #[.int .i64 1,.string T1,.slice none 0 0] 24):=⟨_,rfl⟩;have hbW3:Below w.heap.size w W3:=by rw [hW3];exact hb03.alloc hb03.size _
     have q1:W3.cell? ⟨w3.heap.size,1,none⟩=some (.string T1):=by rw [hW3,World.cell?_alloc_new];rfl
     clear hb3 hb02 hb03;obtain ⟨r1,w4,hr1,hl1,hb4,hc1⟩:=add_run a b W3;have hsr:=sum_run hc1;have hcs:=Bz hl1;obtain ⟨k1,k2⟩:=Ex r1 hl1;obtain ⟨m1,hm1,hm9,hm2⟩:=F4 k1;rw [k2,hsr.1] at hm2;obtain ⟨cs,hcse⟩:∃cs,cs=Bn r1:=⟨_,rfl⟩;rw [<-hcse] at hcs hm1;have hbW4:=hbW3.trans (hb4.mono hbW3.size);replace q1:=Aa hb4 q1;have hcsr:=hsr.2;have hwn:((cs:Int) == 9221120237041090561)=true->badF (sumV a b)=true:=fun h=>by
       rw [<-hsr.1,<-k2,<-hcse];have h9:cs=9221120237041090561:=by have:=eq_of_beq h;omega
       rw [h9];decide
     replace hcs:=Hd hcs;replace hW3:=Hd hW3;replace hbW4:=Hd hbW4;replace hcse:=Hd hcse;replace hcsr:=Hd hcsr;replace hwn:=Hd hwn;clear hl1 hc1 hsr k1 k2 hb4 hbW3 hm9;go_upto_region 5 with fail
     rw [<-hW3.out];go_wp2_with fail
     refine (hcs.out _).mono ?_;rintro e w' ⟨rfl,hww⟩;obtain rfl:=hww.symm;clear hww;replace hm2:=hm2.trans hws.out;cases hn1:((cs:Int) == 9221120237041090561) with
     | true=>
       go_wp2_with fail
       refine (hca.out _).mono ?_;rintro e w' ⟨rfl,hww⟩;obtain rfl:=hww.symm;clear hww;go_wp2;go_ret;exact ⟨rfl,hbW4.out⟩
     | false=>
       go_wp2_with fail
       refine (hca.out _).mono ?_;rintro e w' ⟨rfl,hww⟩;obtain rfl:=hww.symm;clear hww;go_wp2;go_ret;exact ⟨rfl,hbW4.out⟩
   | false=>
     have hbb:badF b=false:=by
       cases hbb:badF b with
       | false=>rfl
       | true=>rw [sum_bad hb ha hba hbb] at hws;cases hws
     obtain ⟨T1,hT1⟩:∃T1:ByteArray,T1=⟨(B8 (sumV a b)).toArray⟩:=⟨_,rfl⟩;have hpo1:=parO_text (sumV_lt a b) (s:=T1) (by rw [hT1]);rw [Dw hws] at hpo1;have hrp:=fun W (hW:Below w.heap.size w W)=>ref_all hpo1 (hY.below hW);have hcz:=Bz (sumV_lt a b);rw [Dw hws] at hcz;have harA:∀W,Below w.heap.size w W->Calls Tryz.prog 12 #[.agg #[.int .i64 1,.string T,.slice none 0 0],.float .f64 b] W fun e w' => e=.returned (.tuple #[.agg #[.int .i64 1,.string T1,.slice none 0 0],.string T1,.int .i64 0])/\Below W.heap.size W w' := fun W hW=>by
       have hwas:Was 1 T a W:=.inr ⟨rfl,fun W2 h2=>hpar W2 (hW.trans (h2.mono hW.size))⟩;rw [hT1];exact areal_sum 1 T none 0 0 a b W ha hb hba hbb hws hwas (hF.below hW)
     replace harA:=Hd harA;replace hT1:=Hd hT1;replace hws:=Hd hws;replace hrp:=Hd hrp;replace hcz:=Hd hcz;clear hpar ca9 cab hba hbb hN hY hF ha hb hpo1
     go_enter Tryz.func4,Tryz.ntmps4
     go_wp2_with fail
     refine hal.out.mono ?_;rintro e w1 ⟨rfl,hb1⟩;have htx:=htxA.out w1 hb1;replace htx:=Hd htx;go_wp2_with fail
     refine htx.out.mono ?_;rintro e w2 ⟨rfl,hb2⟩;have hb02:=hb1.trans (hb2.mono hb1.size);have har:=harA.out w2 hb02;replace har:=Hd har;clear hb1 hb2;go_wp2_with fail
     refine har.out.mono ?_;rintro e w3 ⟨rfl,hb3⟩;have hb03:=hb02.trans (hb3.mono hb02.size);obtain ⟨W3,hW3⟩:∃W,W=w3.alloc (.cells #[.int .i64 1,.string T1,.slice none 0 0] 24):=⟨_,rfl⟩;have hbW3:Below w.heap.size w W3:=by rw [hW3];exact hb03.alloc hb03.size _
     have q1:W3.cell? ⟨w3.heap.size,1,none⟩=some (.string T1):=by rw [hW3,World.cell?_alloc_new];rfl
     clear hb3 hb02 hb03;obtain ⟨r1,w4,hr1,hl1,hb4,hc1⟩:=add_run a b W3;have hsr:=sum_run hc1;have hcs:=Bz hl1;obtain ⟨k1,k2⟩:=Ex r1 hl1;obtain ⟨m1,hm1,hm9,hm2⟩:=F4 k1;rw [k2,hsr.1] at hm2;obtain ⟨cs,hcse⟩:∃cs,cs=Bn r1:=⟨_,rfl⟩;rw [<-hcse] at hcs hm1;have hbW4:=hbW3.trans (hb4.mono hbW3.size);replace q1:=Aa hb4 q1;have hcsr:=hsr.2;have hwn:((cs:Int) == 9221120237041090561)=true->badF (sumV a b)=true:=fun h=>by
       rw [<-hsr.1,<-k2,<-hcse];have h9:cs=9221120237041090561:=by have:=eq_of_beq h;omega
       rw [h9];decide
     replace hcs:=Hd hcs;replace hW3:=Hd hW3;replace hbW4:=Hd hbW4;replace hcse:=Hd hcse;replace hcsr:=Hd hcsr;replace hwn:=Hd hwn;clear hl1 hc1 hsr k1 k2 hb4 hbW3 hm9;go_upto_region 5 with fail
     rw [<-hW3.out];go_wp2_with fail
     refine (hcs.out _).mono ?_;rintro e w' ⟨rfl,hww⟩;obtain rfl:=hww.symm;clear hww;replace hm2:=hm2.trans hws.out;have hn1:((cs:Int) == 9221120237041090561)=false:=by
       cases h:((cs:Int) == 9221120237041090561) with
       | false=>rfl
       | true=>rw [hwn.out h] at hws;cases hws.out
     have hcv:cs=sumV a b:=by rw [hcse.out,hcsr.out hws.out,Dw hws.out]
     obtain ⟨s,hs⟩:∃s,s=sumV a b:=⟨_,rfl⟩;rw [<-hs] at hcv hcz hrp;rw [hcv] at hn1 hm1;subst hcv;have hss:((cs:Int) == (cs:Int))=true:=by simp
     have hTT:(T1 == T1)=true:=by simp
     replace hs:=Hd hs;go_wp2_with fail
     refine (hca.out _).mono ?_;rintro e w' ⟨rfl,hww⟩;obtain rfl:=hww.symm;clear hww;have hr1:=hrp.out w4 hbW4.out;unfold ParA at hr1;replace hr1:=Hd hr1;go_wp2_with fail
     refine hr1.out.mono ?_;rintro e w5 ⟨rfl,hb5⟩;replace q1:=Aa hb5 q1;have hbW5:=hbW4.out.trans (hb5.mono hbW4.out.size);replace hbW5:=Hd hbW5;clear hb5;go_wp2_with fail
     refine (hcz.out _).mono ?_;rintro e w' ⟨rfl,hww⟩;obtain rfl:=hww.symm;clear hww;go_wp2;go_ret;exact ⟨rfl,hbW5.out⟩
end Go.Proofs.YteoalcmhdoopnaaGreatDoor
