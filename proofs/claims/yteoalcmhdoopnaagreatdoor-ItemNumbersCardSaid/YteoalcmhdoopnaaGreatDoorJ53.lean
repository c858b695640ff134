/- The document's numbers as text: the layout. -/
import Derived.Test.YteoalcmhdoopnaaGreatDoorRefA
import Derived.Test.YteoalcmhdoopnaaGreatDoorQuiet
import Derived.Test.YteoalcmhdoopnaaGreatDoorRSums
namespace Go.Proofs.YteoalcmhdoopnaaGreatDoor
open Go.RowKit
theorem cut_text {s:ByteArray} {D:List UInt8} (hs:s.data.toList=D) (k:Nat) (hk:k<=s.size):(s.extract 0 k).data.toList=D.take k/\(s.extract k s.size).data.toList=D.drop k/\(s.extract 0 k).size=k/\(s.extract k s.size).size=s.size - k:=by
 have hl:s.size=D.length:=by rw [Bm,hs]
 refine ⟨?_,?_,?_,?_⟩
 · rw [ByteArray.data_extract,Array.toList_extract,hs,List.extract_eq_take_drop];simp
 · rw [ByteArray.data_extract,Array.toList_extract,hs,List.extract_eq_take_drop]
   exact List.take_of_length_le (by rw [List.length_drop];omega)
 · rw [ByteArray.size_extract];omega
 · rw [ByteArray.size_extract];omega
set_option maxRecDepth 100000 in
set_option maxHeartbeats 3200000 in
theorem layout_e {s:ByteArray} {D:List UInt8} {x:Int} (hs:s.data.toList=D) (hD:D≠[]) (hl:D.length<=20) (x0:-900<=x) (x1:x<=900) (hx:x < -4\/21<=x) (w:World) :
   Calls Tryz.prog 38 #[.string s,.int .i64 x] w fun e w' => ∃t:ByteArray,e=.returned (.string t)/\t.data.toList=layL D x/\Below w.heap.size w w' := by
 have hsl:s.size=D.length:=by rw [Bm,hs]
 have hpos:1<=s.size:=by rw [hsl];exact List.length_pos_iff.2 hD
 obtain ⟨c1,c2,c3,c4⟩:=cut_text hs 1 hpos
 obtain ⟨t1,ht1⟩:∃t,s.extract 0 1=t:=⟨_,rfl⟩
 obtain ⟨t2,ht2⟩:∃t,s.extract 1 s.size=t:=⟨_,rfl⟩
 rw [ht1] at c1 c3
 rw [ht2] at c2 c4
 obtain ⟨n,hn⟩:∃n:Nat,x.natAbs=n:=⟨_,rfl⟩
 have hT:=Fv (n:Int) (by omega) (by omega)
 have hIlen:=itoa_len3 (n:Int) (by omega)
 have hIl0:(Cp (n:Int)).data.toList=Lib.itoa (n:Int):=by simp [Cp]
 have hIz:(Cp (n:Int)).size<=30:=by rw [Bm,hIl0];exact hIlen
 obtain ⟨I,hI⟩:∃I,I=Cp (n:Int):=⟨_,rfl⟩
 rw [<-hI] at hT hIl0 hIz
 have hLay:layL D x=D.take 1++((if 1<D.length then 46 :: D.drop 1 else [])++(101 :: ((if x<0 then 45 else 43) :: ((if n<10 then [48] else [])++Lib.itoa (n:Int))))):=by
   unfold layL layE;rw [if_pos hx,hn]
 have l1:¬9223372036854775807<1+t2.size:=by omega
 have l2:¬9223372036854775807<t1.size+(1+t2.size):=by omega
 have l3:¬9223372036854775807<t1.size+(1+t2.size)+1:=by omega
 have l4:¬9223372036854775807<t1.size+(1+t2.size)+1+1:=by omega
 have l5:¬9223372036854775807<t1.size+(1+t2.size)+1+1+I.size:=by omega
 have l6:¬9223372036854775807<1+I.size:=by omega
 have l7:¬9223372036854775807<t1.size+(1+t2.size)+1+1+(1+I.size):=by omega
 have m3:¬9223372036854775807<t1.size+1:=by omega
 have m4:¬9223372036854775807<t1.size+1+1:=by omega
 have m5:¬9223372036854775807<t1.size+1+1+I.size:=by omega
 have m7:¬9223372036854775807<t1.size+1+1+(1+I.size):=by omega
 have hs9:(1:Int)<=(s.size:Int):=by omega
 have ht1l:=Hd c1
 have ht2l:=Hd c2
 have hIl:=Hd hIl0
 replace hLay:=Hd hLay
 replace hT:=Hd hT
 replace hI:=Hd hI
 replace hsl:=Hd hsl
 clear hIlen c1 c2 c3 c4 hIl0 hIz hs
 by_cases h2:x<0
 · have hx1:x < -4:=by omega
   have hxn:-x=(n:Int):=by omega
   have hn9:(n:Int)<=900:=by omega
   by_cases h1:1<s.size
   · have h1i:(1:Int)<(s.size:Int):=by omega
     by_cases h3:n<10
     · have h3i:(n:Int)<10:=by omega
       go_enter Tryz.func38,Tryz.ntmps38
       go_wp2_with fail
       refine (hT.out _).mono ?_;rintro e w1 ⟨rfl,hb1⟩;go_wp2;go_ret;refine ⟨_,rfl,?_,hb1⟩;rw [hLay.out,if_pos (by rw [<-hsl.out];exact h1),if_pos h2,if_pos h3];simp [ByteArray.data_append,Array.toList_append,ht1l.out,ht2l.out,hIl.out]
     · have h3i:¬(n:Int)<10:=by omega
       go_enter Tryz.func38,Tryz.ntmps38
       go_wp2_with fail
       refine (hT.out _).mono ?_;rintro e w1 ⟨rfl,hb1⟩;go_wp2;go_ret;refine ⟨_,rfl,?_,hb1⟩;rw [hLay.out,if_pos (by rw [<-hsl.out];exact h1),if_pos h2,if_neg h3];simp [ByteArray.data_append,Array.toList_append,ht1l.out,ht2l.out,hIl.out]
   · have h1i:¬(1:Int)<(s.size:Int):=by omega
     by_cases h3:n<10
     · have h3i:(n:Int)<10:=by omega
       go_enter Tryz.func38,Tryz.ntmps38
       go_wp2_with fail
       refine (hT.out _).mono ?_;rintro e w1 ⟨rfl,hb1⟩;go_wp2;go_ret;refine ⟨_,rfl,?_,hb1⟩;rw [hLay.out,if_neg (by rw [<-hsl.out];exact h1),if_pos h2,if_pos h3];simp [ByteArray.data_append,Array.toList_append,ht1l.out,ht2l.out,hIl.out]
     · have h3i:¬(n:Int)<10:=by omega
       go_enter Tryz.func38,Tryz.ntmps38
       go_wp2_with fail
       refine (hT.out _).mono ?_;rintro e w1 ⟨rfl,hb1⟩;go_wp2;go_ret;refine ⟨_,rfl,?_,hb1⟩;rw [hLay.out,if_neg (by rw [<-hsl.out];exact h1),if_pos h2,if_neg h3];simp [ByteArray.data_append,Array.toList_append,ht1l.out,ht2l.out,hIl.out]
 · have hx1:¬x < -4:=by omega
   have hx2:21<=x:=by omega
   obtain rfl:x=(n:Int):=by omega
   have h3:¬n<10:=by omega
   have h3i:¬(n:Int)<10:=by omega
   by_cases h1:1<s.size
   · have h1i:(1:Int)<(s.size:Int):=by omega
     go_enter Tryz.func38,Tryz.ntmps38
     go_wp2_with fail
     refine (hT.out _).mono ?_;rintro e w1 ⟨rfl,hb1⟩;go_wp2;go_ret;refine ⟨_,rfl,?_,hb1⟩;rw [hLay.out,if_pos (by rw [<-hsl.out];exact h1),if_neg (by omega),if_neg h3];simp [ByteArray.data_append,Array.toList_append,ht1l.out,ht2l.out,hIl.out]
   · have h1i:¬(1:Int)<(s.size:Int):=by omega
     go_enter Tryz.func38,Tryz.ntmps38
     go_wp2_with fail
     refine (hT.out _).mono ?_;rintro e w1 ⟨rfl,hb1⟩;go_wp2;go_ret;refine ⟨_,rfl,?_,hb1⟩;rw [hLay.out,if_neg (by rw [<-hsl.out];exact h1),if_neg (by omega),if_neg h3];simp [ByteArray.data_append,Array.toList_append,ht1l.out,ht2l.out,hIl.out]
set_option maxRecDepth 100000 in
set_option maxHeartbeats 3200000 in
theorem layout_f {s:ByteArray} {D:List UInt8} {x:Int} (hs:s.data.toList=D) (hD:D≠[]) (hl:D.length<=20) (hx:¬(x < -4\/21<=x)) (w:World) :
   Calls Tryz.prog 38 #[.string s,.int .i64 x] w fun e w' => ∃t:ByteArray,e=.returned (.string t)/\t.data.toList=layL D x/\Below w.heap.size w w' := by
 have hsl:s.size=D.length:=by rw [Bm,hs]
 have hpos:1<=s.size:=by rw [hsl];exact List.length_pos_iff.2 hD
 have hLay:layL D x=if x<0 then [48,46]++(List.replicate (-x - 1).toNat 48++D)
     else if (D.length:Int)<=x+1 then D++List.replicate ((x+1).toNat - D.length) 48
     else D.take (x+1).toNat++46 :: D.drop (x+1).toNat:=by
   unfold layL
   rw [if_neg hx]
 have hx1:¬x < -4:=by omega
 have hx2:¬21<=x:=by omega
 have hx3:-4<=x:=by omega
 have hx4:x<21:=by omega
 by_cases h0:x<0
 · rw [if_pos h0] at hLay
   obtain ⟨k,hk⟩:∃k:Nat,-x - 1=(k:Int):=⟨(-x - 1).toNat,by omega⟩;have hk9:k<=10:=by omega
   have hZ:=zeros_any k (by omega) w;have hkt:(-x - 1).toNat=k:=by omega
   rw [hkt] at hLay;replace hZ:=Hd hZ;replace hLay:=Hd hLay;replace hsl:=Hd hsl;replace hs:=Hd hs;clear hkt hx
   go_enter Tryz.func38,Tryz.ntmps38
   go_wp2_with fail
   refine hZ.out.mono ?_;rintro e w1 ⟨z,rfl,hz,hww⟩;obtain rfl:=hww.symm;clear hww;have hzs:z.size=k:=by rw [Bm,hz,List.length_replicate]
   have l1:¬9223372036854775807<2+z.size:=by omega
   have l2:¬9223372036854775807<2+z.size+s.size:=by have:=hsl.out;omega
   replace hzs:=Hd hzs;replace hz:=Hd hz;go_wp2;go_ret;refine ⟨_,rfl,?_,Below.refl _ _⟩;rw [hLay.out];simp [ByteArray.data_append,Array.toList_append,hz.out,hs.out]
 · rw [if_neg h0] at hLay
   by_cases h1:(D.length:Int)<=x+1
   · rw [if_pos h1] at hLay
     rw [<-hsl] at h1;obtain ⟨k,hk⟩:∃k:Nat,x+1 - (s.size:Int)=(k:Int):=⟨(x+1 - (s.size:Int)).toNat,by omega⟩;have hk9:k<=30:=by omega
     have hZ:=zeros_any k (by omega) w;have hkt:(x+1).toNat - D.length=k:=by omega
     rw [hkt] at hLay;replace hZ:=Hd hZ;replace hLay:=Hd hLay;replace hs:=Hd hs;have hsz20:(s.size:Int)<=20:=by omega
     replace hsl:=Hd hsl;clear hkt hx
     go_enter Tryz.func38,Tryz.ntmps38
     go_wp2_with fail
     refine hZ.out.mono ?_;rintro e w1 ⟨z,rfl,hz,hww⟩;obtain rfl:=hww.symm;clear hww;have hzs:z.size=k:=by rw [Bm,hz,List.length_replicate]
     have l2:¬9223372036854775807<s.size+z.size:=by omega
     replace hzs:=Hd hzs;replace hz:=Hd hz;go_wp2;go_ret;refine ⟨_,rfl,?_,Below.refl _ _⟩;rw [hLay.out];simp [ByteArray.data_append,Array.toList_append,hz.out,hs.out]
   · rw [if_neg h1] at hLay
     rw [<-hsl] at h1;obtain ⟨k,hk⟩:∃k:Nat,x+1=(k:Int):=⟨(x+1).toNat,by omega⟩;have hkt:(x+1).toNat=k:=by omega
     rw [hkt] at hLay;have hks:k<=s.size:=by omega
     obtain ⟨c1,c2,c3,c4⟩:=cut_text hs k hks;obtain ⟨t1,ht1⟩:∃t,s.extract 0 k=t:=⟨_,rfl⟩;obtain ⟨t2,ht2⟩:∃t,s.extract k s.size=t:=⟨_,rfl⟩;rw [ht1] at c1 c3;rw [ht2] at c2 c4;have l1:¬9223372036854775807<t1.size+1:=by omega
     have l2:¬9223372036854775807<t1.size+1+t2.size:=by omega
     have hksi:(k:Int)<=(s.size:Int):=by omega
     have hsz20:(s.size:Int)<=20:=by omega
     have h1k:¬(s.size:Int)<=(k:Int):=by omega
     replace c1:=Hd c1;replace c2:=Hd c2;replace hLay:=Hd hLay;replace hs:=Hd hs;replace hsl:=Hd hsl;clear c3 c4 hkt hx
     go_enter Tryz.func38,Tryz.ntmps38
     go_upto_region 17 with fail
     refine Aq (by kernel_rfl) (by kernel_rfl) ?_;repeat (go_big_quiet_step (fail))
     refine wpQuiet_nil ?_;rintro _ ⟨xq,rfl⟩;have hS:=As w xq;go_wp2_with fail
     go_ret;refine ⟨_,rfl,?_,hS⟩;rw [hLay.out];simp [ByteArray.data_append,Array.toList_append,c1.out,c2.out]
theorem layout_any {s:ByteArray} {D:List UInt8} {x:Int} (hs:s.data.toList=D) (hD:D≠[]) (hl:D.length<=20) (x0:-900<=x) (x1:x<=900) (w:World) :
   Calls Tryz.prog 38 #[.string s,.int .i64 x] w fun e w' => ∃t:ByteArray,e=.returned (.string t)/\t.data.toList=layL D x/\Below w.heap.size w w' := by
 by_cases hx:x < -4\/21<=x
 · exact layout_e hs hD hl x0 x1 hx w
 · exact layout_f hs hD hl hx w
theorem expV_snoc (l:List UInt8) (c:UInt8):expV (l++[c])=10 * expV l+dv c:=by unfold expV;rw [List.foldl_append];rfl
theorem expV_mono {E:List UInt8} (j:Nat):expV (E.take j)<=expV E:=by
 have key:∀(l:List UInt8) (a:Nat),a<=l.foldl (fun a c=>10 * a+dv c) a:=by
   intro l;induction l with
   | nil=>intro a;exact Nat.le_refl _
   | cons c l ih=>intro a;exact Nat.le_trans (show a<=10 * a+dv c by omega) (ih _)
 conv=>rhs;rw [<-List.take_append_drop j E]
 unfold expV;rw [List.foldl_append];exact key _ _
def nearA (n:Nat) (D:List UInt8):List UInt8:=D.take 1++(if 1<n then 46 :: D.drop 1 else [])
theorem near_filter {n:Nat} {D:List UInt8} (hd:∀c∈D,isD c=true) (hn:D.length=n) (h1:1<=n):(nearA n D).filter (· != 46)=D/\(∀c∈nearA n D,c≠101)/\(nearA n D).length<=n+1:=by
 have h46:∀c:UInt8,isD c=true->(c != 46)=true:=fun c h=>by
   simp only [bne_iff_ne,ne_eq];intro e;rw [e] at h;exact absurd h (by decide)
 have h101:∀c:UInt8,isD c=true->c≠101:=fun c h e=>by rw [e] at h;exact absurd h (by decide)
 have hf:∀l:List UInt8,(∀c∈l,isD c=true)->l.filter (· != 46)=l:=fun l h=>List.filter_eq_self.2 fun c hc=>h46 c (h c hc)
 unfold nearA;by_cases h:1<n
 · rw [if_pos h]
   refine ⟨?_,?_,?_⟩
   · rw [List.filter_append,hf _ fun c hc=>hd c (List.mem_of_mem_take hc),List.filter_cons_of_neg (by decide),hf _ fun c hc=>hd c (List.mem_of_mem_drop hc),List.take_append_drop]
   · intro c hc
     rcases List.mem_append.1 hc with hc | hc
     · exact h101 c (hd c (List.mem_of_mem_take hc))
     · rcases List.mem_cons.1 hc with rfl | hc
       · decide
       · exact h101 c (hd c (List.mem_of_mem_drop hc))
   · simp;omega
 · rw [if_neg h,List.append_nil]
   refine ⟨?_,fun c hc=>h101 c (hd c (List.mem_of_mem_take hc)),by simp;omega⟩;rw [hf _ fun c hc=>hd c (List.mem_of_mem_take hc)];exact List.take_of_length_le (by omega)
set_option maxRecDepth 100000 in
set_option maxHeartbeats 6400000 in
theorem nearest_any {r many:Nat} (h:0<r) (hr:r<9218868437227405312) (h1:1<=many) (h17:many<=17) {w:World} (hF:Flo w) (hO:Opt w) :
   Calls Tryz.prog 36 #[.float .f64 r,.int .i64 (many:Int)] w fun e w' => ∃t:ByteArray,e=.returned (.tuple #[.string t,.int .i64 ((fixN r many).2+(many:Int) - 1)])/\t.data.toList=Lib.decDigits (fixN r many).1/\Below w.heap.size w w' := by
 obtain ⟨hfx,q0,q1⟩:=D9 h hr h1 h17
 obtain ⟨k,hk⟩:∃k:Nat,many=k+1:=⟨many - 1,by omega⟩
 have hm1:(many:Int) - 1=(k:Int):=by omega
 have hfm:=sfmtP_any (n:=r) (by omega) (by rw [Nat.mod_eq_of_lt (by omega)];exact hr) (by rw [Nat.mod_eq_of_lt (by omega)];exact h) hF hO (k:=k) (by omega)
 rw [Nat.mod_eq_of_lt (show r<9223372036854775808 by omega),decide_eq_false (show ¬9223372036854775808<=r by omega),<-hk] at hfm
 have hdig:=effP_digs (n:=many) (d:=(fixN r many).1) (dp:=(many:Int)+(fixN r many).2) h1 hfx.low hfx.high
 have hm2:many - 1=k:=by omega
 rw [hm2] at hdig
 rw [hdig] at hfm
 obtain ⟨D,hD⟩:∃D,D=Lib.decDigits (fixN r many).1:=⟨_,rfl⟩
 have hDd:∀c∈D,isD c=true:=by rw [hD];exact Br _
 have hDl:D.length=many:=by rw [hD,Lib.decDigits_length];exact C3 h1 hfx.low hfx.high
 obtain ⟨x,hx⟩:∃x:Int,x=(fixN r many).2+(many:Int) - 1:=⟨_,rfl⟩
 have hx9:-400<=x/\x<=400:=by omega
 rw [<-hD,show (many:Int)+(fixN r many).2 - 1=x by omega] at hfm
 obtain ⟨E,hE,hEd,hEv,hEl⟩:=expv_spec x (by omega)
 rw [hE] at hfm
 obtain ⟨sg,hsg⟩:∃sg:UInt8,sg=if x<0 then 45 else 43:=⟨_,rfl⟩
 rw [<-hsg] at hfm
 obtain ⟨A1,A2,A3⟩:=near_filter hDd hDl h1
 have hfm2:Calls Tryz.prog 53 #[.float .f64 r,.int .u8 101,.int .i64 (k:Int),.int .i64 64] w fun e w' => ∃t:ByteArray,e=.returned (.string t)/\t.data.toList=nearA many D++101 :: sg :: E/\Below w.heap.size w w' := by
   refine hfm.mono ?_;rintro e w' ⟨t,a,b,c⟩;exact ⟨t,a,by rw [b];unfold nearA;simp,c⟩
 clear hfm hdig
 rw [<-hx,<-hD]
 obtain ⟨A,hA⟩:∃A,A=nearA many D:=⟨_,rfl⟩
 rw [<-hA] at A1 A2 A3 hfm2
 have hk9:(k:Int)<=16:=by omega
 replace hfm2:=Hd hfm2
 replace hA:=Hd hA
 replace hD:=Hd hD
 replace hx:=Hd hx
 replace hsg:=Hd hsg
 replace hE:=Hd hE
 replace hEv:=Hd hEv
 replace A1:=Hd A1
 replace hk:=Hd hk
 replace hDl:=Hd hDl
 clear hfx q0 q1 hF hO hm2
 go_enter Tryz.func36,Tryz.ntmps36
 go_wp2_with fail
 refine hfm2.out.mono ?_
 rintro e w1 ⟨s,rfl,hs,hb1⟩
 have hsz:s.size=A.length+(E.length+2):=by rw [Bm,hs];simp
 have hA9:A.length<=18:=by omega
 have hsz9:(s.size:Int)<=30:=by omega
 replace hb1:=Hd hb1
 replace hsz' := Hd hsz
 replace hs:=Hd hs
 clear hsz
 go_wp2_with fail
 go_loop [7,9] (fun s7 s9=>∃(j:Nat) (b:ByteArray),j<=A.length/\s7=.string b/\s9=.int .i64 (j:Int)/\b.data.toList=(A.take j).filter (· != 46)) (fun _ s9=>A.length - (intOf s9).toNat)
 case atStart=>exact ⟨0,⟨#[]⟩,Nat.zero_le _,rfl,rfl,rfl⟩
 case round=>
   obtain ⟨j,b,hj,rfl,rfl,hb⟩:=hrel;have hbz:b.size<=18:=by
     rw [Bm,hb];exact Nat.le_trans (List.length_filter_le _ _) (by rw [List.length_take];omega)
   have hjs:j<s.size:=by have:=hsz'.out;omega
   have hjsi:(j:Int)<(s.size:Int):=by omega
   obtain ⟨c,hc⟩:∃c:UInt8,s[j]'hjs=c:=⟨_,rfl⟩;have hcl:s.data.toList[j]?=some c:=by rw [Lib.data_getElem? s j hjs,hc]
   rw [hs.out] at hcl;by_cases hlt:j<A.length
   · have hcA:A[j]?=some c:=by rw [List.getElem?_append_left hlt] at hcl;exact hcl
     have hc101:c≠101:=A2 c (List.mem_of_getElem? hcA);have hcn:¬(c.toNat:Int)=101:=fun e=>hc101 (UInt8.toNat_inj.1 (by show c.toNat=101;omega));have q101:((c.toNat:Int) != 101)=true:=by simpa using hcn
     have htk:A.take (j+1)=A.take j++[c]:=by rw [List.take_add_one,hcA];rfl
     have hj1:(j:Int)+1<=(s.size:Int):=by omega
     have hj18:(j:Int)<=18:=by omega
     by_cases h46:c=46
     · have q46:((c.toNat:Int) != 46)=false:=by rw [h46];rfl
       have q46' : (c.toNat:Int)=46:=by rw [h46];rfl
       have hb2:b.data.toList=(A.take (j+1)).filter (· != 46):=by rw [htk,List.filter_append,hb,h46];simp
       replace hb2:=Hd hb2;replace hb:=Hd hb;replace hcl:=Hd hcl;replace htk:=Hd htk;replace hcA:=Hd hcA;clear h46 hc101;go_wp2
       go_round
       case rel=>exact ⟨j+1,b,by omega,rfl,by go_num,hb2.out⟩
       case measure=>simp [intOf];omega
     · have hcn2:¬(c.toNat:Int)=46:=fun e=>h46 (UInt8.toNat_inj.1 (by show c.toNat=46;omega))
       have q46:((c.toNat:Int) != 46)=true:=by simpa using hcn2
       obtain ⟨t,ht⟩:∃t,s.extract j (j+1)=t:=⟨_,rfl⟩;have htl:t.data.toList=[c]:=by
         rw [<-ht,ByteArray.data_extract,Array.toList_extract,hs.out,List.extract_eq_take_drop,Nat.add_sub_cancel_left];have:=hcl;rw [List.getElem?_eq_some_iff] at this;obtain ⟨p,e⟩:=this;rw [List.drop_eq_getElem_cons p,e];rfl
       have htz:t.size=1:=by rw [Bm,htl];rfl
       have hz1:¬9223372036854775807<b.size+t.size:=by omega
       have hb2:(b++t).data.toList=(A.take (j+1)).filter (· != 46):=by
         rw [ByteArray.data_append,Array.toList_append,htl,htk,List.filter_append,hb];have:(c != 46)=true:=by simpa using h46
         simp [this]
       replace hb2:=Hd hb2;replace hb:=Hd hb;replace hcl:=Hd hcl;replace htl:=Hd htl;replace htz:=Hd htz;replace htk:=Hd htk;replace hcA:=Hd hcA;clear h46 hc101;go_wp2
       go_round
       case rel=>exact ⟨j+1,_,by omega,rfl,by go_num,hb2.out⟩
       case measure=>simp [intOf];omega
   · have hjA:j=A.length:=by omega
     have hc101:c=101:=by
       rw [hjA,List.getElem?_append_right (Nat.le_refl _),Nat.sub_self] at hcl;exact (Option.some.inj hcl).symm
     have q101:((c.toNat:Int) != 101)=false:=by rw [hc101];rfl
     have q101' : (c.toNat:Int)=101:=by rw [hc101];rfl
     have hbD:b.data.toList=D:=by rw [hb,hjA,List.take_length];exact A1.out
     have hsz2:=hsz'.out;have hj1:j+1<s.size:=by omega
     obtain ⟨c2,hc2⟩:∃c:UInt8,s[j+1]'hj1=c:=⟨_,rfl⟩;have hc2l:s.data.toList[j+1]?=some c2:=by rw [Lib.data_getElem? s (j+1) hj1,hc2]
     have hc2g:c2=sg:=by
       rw [hs.out,hjA,List.getElem?_append_right (by omega),Nat.add_sub_cancel_left] at hc2l;exact (Option.some.inj hc2l).symm
     obtain ⟨t,ht⟩:∃t,s.extract (j+2) s.size=t:=⟨_,rfl⟩;have htl:t.data.toList=E:=by
       rw [<-ht,(cut_text hs.out (j+2) (by omega)).2.1,hjA,<-List.drop_drop,List.drop_left' rfl];rfl
     have htz:t.size=E.length:=by rw [Bm,htl]
     have hj2i:(j:Int)+2<=(s.size:Int):=by omega
     have hj1i:(j:Int)+1<(s.size:Int):=by omega
     have hj18:(j:Int)<=18:=by omega
     have hcv:=Lib.run_convert_string_bytes (P:=Tryz.prog) w1 9 50 5 t Tryz.underlying9 Tryz.underlying50 Tryz.underlying5;obtain ⟨w2,hw2⟩:∃w2,w2=Lib.bytesWorld w1 5 t:=⟨_,rfl⟩;rw [<-hw2] at hcv;have hb2:Below w1.heap.size w1 w2:=by rw [hw2];exact Go.Joins.below_bytesWorld _ _ _ _ (Nat.le_refl _)
     have hcell:∀i (h:i<t.size),w2.cell? ⟨w1.heap.size,i,none⟩=some (.int .u8 ((t[i]'h).toNat:Int)):=fun i h=>by
       rw [hw2,Lib.bytesWorld_cell w1 5 t i h,List.getD_eq_getElem?_getD,Lib.data_getElem? t i h];rfl
     have hb02:=hb1.out.trans (hb2.mono hb1.out.size);have htz3:t.size<=3:=by omega
     replace hw2:=Hd hw2;replace hb2:=Hd hb2;replace hb02:=Hd hb02;replace hcell:=Hd hcell;replace hb:=Hd hb;replace hcl:=Hd hcl;replace hc2l:=Hd hc2l;replace htl:=Hd htl;replace htz' := Hd htz;replace hbD:=Hd hbD;replace hjA:=Hd hjA;replace hc2g:=Hd hc2g;clear hc101 hsz2 htz;go_wp2_with fail
     go_loop [8,11,39] (fun s8 _ i=>∃k:Nat,k<=t.size/\i=.int .i64 (k:Int)/\s8=.int .i64 ((expV (E.take k):Nat):Int)) (fun _ _ i=>t.size - (intOf i).toNat)
     case atStart=>exact ⟨0,Nat.zero_le _,rfl,rfl⟩
     case round=>
       obtain ⟨k,hk,rfl,rfl⟩:=hrel;have hv:=expV_mono (E:=E) k;rw [hEv.out] at hv;obtain ⟨V,hV⟩:∃V,V=expV (E.take k):=⟨_,rfl⟩;rw [<-hV] at hv ⊢;have hV9:V<=400:=by omega
       by_cases hlt:k<t.size
       · have hlti:(k:Int)<(t.size:Int):=by omega
         have hck:=hcell.out k hlt;obtain ⟨c3,hc3⟩:∃c:UInt8,t[k]'hlt=c:=⟨_,rfl⟩;rw [hc3] at hck;have hc3l:E[k]?=some c3:=by rw [<-htl.out,Lib.data_getElem? t k hlt,hc3]
         have hc3d:=hEd c3 (List.mem_of_getElem? hc3l);have hc3n:48<=c3.toNat/\c3.toNat<=57:=by unfold isD at hc3d;simpa using hc3d
         have hnext:10 * (V:Int)+(c3.toNat:Int) - 48=((expV (E.take (k+1)):Nat):Int):=by
           rw [List.take_add_one,hc3l];show _=((expV (E.take k++[c3]):Nat):Int);rw [expV_snoc,<-hV];unfold dv;omega
         replace hnext:=Hd hnext;replace hV:=Hd hV;replace hc3l:=Hd hc3l;clear hc3;go_wp2
         go_round
         case rel=>exact ⟨k+1,by omega,by go_num,by rw [<-hnext.out]⟩
         case measure=>simp [intOf];omega
       · have hlti:¬(k:Int)<(t.size:Int):=by omega
         have hVx:V=x.natAbs:=by
           have hkE:k=E.length:=by have:=htz'.out;omega
           rw [hV,hkE,List.take_length];exact hEv.out
         replace hV:=Hd hV;by_cases hx0:x<0
         · have hg45:(c2.toNat:Int)=45:=by rw [hc2g.out,hsg.out,if_pos hx0];rfl
           have q45:((c2.toNat:Int) == 45)=true:=by rw [hg45];rfl
           have hneg:-(V:Int)=x:=by omega
           replace hVx:=Hd hVx;replace hneg:=Hd hneg;go_wp2
           go_ret2
           exact ⟨b,by rw [<-hneg.out];rfl,hbD.out,hb02.out⟩
         · have hg45:¬(c2.toNat:Int)=45:=by rw [hc2g.out,hsg.out,if_neg hx0];decide
           have q45:((c2.toNat:Int) == 45)=false:=by simpa using hg45
           have hpos:(V:Int)=x:=by omega
           replace hVx:=Hd hVx;replace hpos:=Hd hpos;go_wp2
           go_ret2
           exact ⟨b,by rw [<-hpos.out];rfl,hbD.out,hb02.out⟩
def FBlk (w:World) (b n:Nat):Prop:=∃c t lo hi,w.heap[b]?=some (.cells c t (lo,hi))/\n<=lo
theorem FBlk.frz {w:World} {b n:Nat} (h:FBlk w b n) {o:Nat} (ho:o<n):w.frozen? ⟨b,o,none⟩=false:=by
 obtain ⟨c,t,lo,hi,h,hn⟩:=h;simp only [World.frozen?,h];have:¬lo<=o:=by omega
 simp [this]
theorem FBlk.setCell {w:World} {b n:Nat} (h:FBlk w b n) (a:Addr) (v:Value):FBlk (w.setCell a v) b n:=by
 obtain ⟨c,t,lo,hi,h,hn⟩:=h;simp only [FBlk,World.setCell,Array.getElem?_modify];split
 · exact ⟨if a.spot.isSome=true then c else c.setIfInBounds a.off v,t,lo,hi,by simp [h],hn⟩
 · exact ⟨c,t,lo,hi,h,hn⟩
structure Mem (w:World) (b:Nat) (M:List UInt8):Prop where
 blk:FBlk w b M.length
 cell:∀i (h:i<M.length),w.cell? ⟨b,i,none⟩=some (.int .u8 (M[i].toNat:Int))
theorem Mem.set {w:World} {b:Nat} {M:List UInt8} (h:Mem w b M) {i:Nat} (hi:i<M.length) (c:UInt8):Mem (w.setCell ⟨b,i,none⟩ (.int .u8 (c.toNat:Int))) b (M.set i c):=by
 refine ⟨by rw [List.length_set];exact h.blk.setCell _ _,fun j hj=>?_⟩;rw [List.length_set] at hj;by_cases e:j=i
 · subst e
   rw [Ar (h.cell j hi),List.getElem_set_self]
 · rw [Ab (by simp [e]),h.cell j hj,List.getElem_set_ne (Ne.symm e)]
theorem Mem.text {w:World} {b:Nat} {M:List UInt8} (h:Mem w b M) (cap:Nat):(convert 50 9 (.slice (some ⟨b,0,none⟩) M.length cap)).run Tryz.prog w=.ok (.string ⟨M.toArray⟩) w:=by
 have h7:=run_convert_bytes_back (P:=Tryz.prog) w 50 9 5 ⟨b,0,none⟩ cap M Tryz.underlying50 Tryz.underlying5 Tryz.underlying9 (fun q hq=>by
   have h9:(⟨b,0,none⟩:Addr).add q=⟨b,q,none⟩:=by rw [add_at,Nat.zero_add]
   rw [h9,h.cell q hq])
 exact h7
theorem mem_bytes (w:World) (s:ByteArray):Mem (Lib.bytesWorld w 5 s) w.heap.size s.data.toList:=by
 have hl:s.data.toList.length=s.size:=(Bm s).symm;refine ⟨⟨_,_,_,_,Lib.bytesWorld_at_new w 5 s,?_⟩,fun i h=>?_⟩
 · rw [hl]
   unfold Lib.bytesCells;simp;try omega
 · rw [Lib.bytesWorld_cell w 5 s i (by omega),List.getD_eq_getElem?_getD,List.getElem?_eq_getElem h];rfl
theorem F8 {D:List UInt8} {m n:Nat} {z c:UInt8} (hD:D.length=n) (hm:m<n):(D.take (m+1)++List.replicate (n - (m+1)) z).set m c=D.take m++c :: List.replicate (n - (m+1)) z:=by
 have h1:D.take (m+1)=D.take m++[D[m]'(by omega)]:=by rw [List.take_add_one,List.getElem?_eq_getElem (by omega)];rfl
 rw [h1,List.append_assoc,List.set_append_right _ _ (by rw [List.length_take];omega),List.length_take,show m - min m D.length=0 by omega];rfl
theorem Gj {m n:Nat} (z:UInt8) (hm:m<n):z :: List.replicate (n - (m+1)) z=List.replicate (n - m) z:=by
 rw [<-List.replicate_succ];congr 1;omega
theorem drop_next {D:List UInt8} {m n:Nat} {y:UInt8} (hD:D.length=n) (hm:m<n) (h:D.drop (m+1)=List.replicate (n - (m+1)) y):D=D.take m++D[m]'(by omega) :: List.replicate (n - (m+1)) y:=by
 rw [<-h,<-List.drop_eq_getElem_cons,List.take_append_drop]
set_option maxRecDepth 100000 in
set_option maxHeartbeats 6400000 in
theorem beside_up {s:ByteArray} {d n:Nat} {q x:Int} (hs:s.data.toList=Lib.decDigits d) (hn:1<=n) (h17:n<=17) (h0:10 ^ (n - 1)<=d) (h1:d<10 ^ n) (hx:x=q+(n:Int) - 1) (q0:-400<=q) (q1:q<=400) (w:World) :
   Calls Tryz.prog 39 #[.string s,.int .i64 x,.bool true] w fun e w' => ∃t:ByteArray,e=.returned (.tuple #[.string t,.int .i64 ((Af n d q true).2+(n:Int) - 1)])/\t.data.toList=Lib.decDigits (Af n d q true).1/\Below w.heap.size w w' := by
 have hsl:s.size=n:=by rw [Bm,hs,Lib.decDigits_length];exact C3 hn h0 h1
 obtain ⟨D,hD⟩:∃D,D=Lib.decDigits d:=⟨_,rfl⟩
 have hDl:D.length=n:=by rw [hD,<-hs,<-Bm,hsl]
 have hDd:∀c∈D,isD c=true:=by rw [hD];exact Br d
 have hcv:=Lib.run_convert_string_bytes (P:=Tryz.prog) w 9 50 5 s Tryz.underlying9 Tryz.underlying50 Tryz.underlying5
 have hm1:=mem_bytes w s
 obtain ⟨w1,hw1⟩:∃w1,w1=Lib.bytesWorld w 5 s:=⟨_,rfl⟩
 rw [<-hw1] at hcv hm1
 rw [hs,<-hD] at hm1
 have hb1:Below w.heap.size w w1:=by rw [hw1];exact Go.Joins.below_bytesWorld _ _ _ _ (Nat.le_refl _)
 obtain ⟨cp,hcp⟩:∃cp,cp=grownCap w s.size 0 5:=⟨_,rfl⟩
 rw [<-hcp,hsl] at hcv
 obtain ⟨b,hb⟩:∃b,b=w.heap.size:=⟨_,rfl⟩
 rw [<-hb] at hcv hm1
 have hb1' : Below b w w1:=by rw [hb];exact hb1
 have hn9:(n:Int)<=17:=by omega
 have hn0:(1:Int)<=(n:Int):=by omega
 have hx9:-500<=x/\x<=500:=by omega
 have hbw:b<=w.heap.size:=by omega
 replace hw1:=Hd hw1
 replace hcp:=Hd hcp
 replace hb:=Hd hb
 replace hD' := Hd hD
 replace hm1:=Hd hm1
 replace hs:=Hd hs
 replace hx:=Hd hx
 replace hDl:=Hd hDl
 clear hsl hb1 hD
 go_enter Tryz.func39,Tryz.ntmps39
 go_wp2_with fail
 go_loopw [9] (fun i wr=>∃(m:Nat) (z:Int),m<=n/\i=.int .i64 z/\z=(m:Int) - 1/\Mem wr b (D.take m++List.replicate (n - m) 48)/\D.drop m=List.replicate (n - m) 57/\Below b w wr) (fun i _=>(intOf i+1).toNat)
 case atStart=>exact ⟨n,(n:Int) - 1,Nat.le_refl _,rfl,rfl,by rw [Nat.sub_self,<-hDl.out,List.take_length];simpa using hm1.out,by rw [Nat.sub_self,<-hDl.out];simp,hb1'⟩
 case round=>
   obtain ⟨m,z,hm,rfl,hz,hM,hdr,hbe⟩:=hrel;have hMl:(D.take m++List.replicate (n - m) 48).length=n:=by rw [List.length_append,List.length_take,List.length_replicate,hDl.out];omega
   rcases m with _ | m
   · -- all nines
     obtain rfl:z=-1:=by omega
     have hall:Lib.decDigits d=List.replicate n 57:=by
       have:=hdr;rw [List.drop_zero,Nat.sub_zero] at this;rw [<-hD'.out];exact this
     obtain ⟨r1,r2⟩:=beside_top (q:=q) hall hn;have hM0:Mem wr b (List.replicate n 48):=by simpa using hM
     have hcell:=hM0.cell 0 (by rw [List.length_replicate];omega);have hfz:=hM0.blk.frz (o:=0) (by rw [List.length_replicate];omega);have hM2:=hM0.set (i:=0) (by rw [List.length_replicate];omega) 49;have hset:(List.replicate n (48:UInt8)).set 0 49=49 :: List.replicate (n - 1) 48:=by
       obtain ⟨k,rfl⟩:∃k,n=k+1:=⟨n - 1,by omega⟩;rw [List.replicate_succ];rfl
     rw [hset,r1] at hM2;have hl9:(Lib.decDigits (Af n d q true).1).length=n:=by rw [<-r1];simp;omega
     have hcv2:=hM2.text cp;rw [hl9,show ((49:UInt8).toNat:Int)=49 from rfl] at hcv2;have hres:x+1=(Af n d q true).2+(n:Int) - 1:=by rw [r2,hx.out];omega
     obtain ⟨T,hT⟩:∃T:ByteArray,T=⟨(Lib.decDigits (Af n d q true).1).toArray⟩:=⟨_,rfl⟩;rw [<-hT] at hcv2;have hTl:T.data.toList=Lib.decDigits (Af n d q true).1:=by rw [hT]
     have hb9:Below w.heap.size w (wr.setCell ⟨b,0,none⟩ (.int .u8 49)):=by
       rw [<-hb.out];exact Fr.below ((Fr.of_below hbe).setCell (fun _=>Nat.le_refl _) _) hbw fun i hi=>by omega
     replace hres:=Hd hres;replace hTl:=Hd hTl;replace hb9:=Hd hb9;replace hM:=Hd hM;replace hdr:=Hd hdr;replace hMl:=Hd hMl;replace hbe:=Hd hbe;clear hall r1 r2 hM0 hM2 hset hl9 hT hz;go_wp2
     go_ret2
     exact ⟨T,by rw [<-hres.out];rfl,hTl.out,hb9.out⟩
   · have hmn:m<n:=by omega
     have hDm:m<D.length:=by rw [hDl.out];exact hmn
     obtain rfl:z=(m:Int):=by omega
     clear hz;have hmi:(m:Int)<(n:Int):=by omega
     obtain ⟨c,hc⟩:∃c,c=D[m]'hDm:=⟨_,rfl⟩;have hcd:isD c=true:=by rw [hc];exact hDd _ (List.getElem_mem hDm)
     have hcn:48<=c.toNat/\c.toNat<=57:=by unfold isD at hcd;simpa using hcd
     have hcell:=hM.cell m (by rw [hMl];exact hmn);have hge:∀h,(D.take (m+1)++List.replicate (n - (m+1)) (48:UInt8))[m]'h=c:=fun h=>by
       rw [List.getElem_append_left (by rw [List.length_take];omega),List.getElem_take,hc]
     rw [hge] at hcell;have hfz:=hM.blk.frz (o:=m) (by rw [hMl];exact hmn);have hdn:=drop_next hDl.out hmn hdr;rw [<-hc] at hdn;by_cases h57:c=57
     · have hcn57:(c.toNat:Int)=57:=by rw [h57];rfl
       have hM2:=hM.set (i:=m) (by rw [hMl];exact hmn) 48;rw [F8 hDl.out hmn,Gj 48 hmn] at hM2;have hdr2:D.drop m=List.replicate (n - m) 57:=by
         rw [List.drop_eq_getElem_cons hDm,hdr,<-hc,h57,Gj 57 hmn]
       have hb9:Below b w (wr.setCell ⟨b,m,none⟩ (.int .u8 ((48:UInt8).toNat:Int))):=
         Fr.below ((Fr.of_below hbe).setCell (fun _=>Nat.le_refl _) _) hbw fun i hi=>by omega
       replace hM:=Hd hM;replace hM2:=Hd hM2;replace hdr:=Hd hdr;replace hdr2:=Hd hdr2;replace hMl:=Hd hMl;replace hbe:=Hd hbe;replace hb9:=Hd hb9;replace hc:=Hd hc;replace hdn:=Hd hdn;clear hge h57;go_wp2
       go_round
       case rel=>exact ⟨m,(m:Int) - 1,by omega,rfl,rfl,hM2.out,hdr2.out,hb9.out⟩
       case measure=>simp [intOf]
     · have hcn57:¬(c.toNat:Int)=57:=fun e=>h57 (UInt8.toNat_inj.1 (by show c.toNat=57;omega))
       have q57:((c.toNat:Int) == 57)=false:=by simpa using hcn57
       have hc1:((c+1).toNat:Int)=(c.toNat:Int)+1:=by
         rw [UInt8.toNat_add];show (((c.toNat+1) % 256:Nat):Int)=_;omega
       have hM2:=hM.set (i:=m) (by rw [hMl];exact hmn) (c+1);rw [F8 hDl.out hmn] at hM2;obtain ⟨r1,r2⟩:=beside_mid (A:=D.take m) (c:=c) (k:=n - (m+1)) (d:=d) (n:=n) (q:=q) (up:=true) (by rw [<-hD'.out];exact hdn) hn h0 h1 (by simpa using h57) (fun h=>by cases h);simp only [if_true] at r1;rw [r1] at hM2;have hl9:(Lib.decDigits (Af n d q true).1).length=n:=by
         have:=hMl;rw [<-r1];simp at this ⊢;try omega
       have hcv2:=hM2.text cp;rw [hl9] at hcv2;rw [hc1] at hcv2;have hres:x=(Af n d q true).2+(n:Int) - 1:=by rw [r2,hx.out]
       obtain ⟨T,hT⟩:∃T:ByteArray,T=⟨(Lib.decDigits (Af n d q true).1).toArray⟩:=⟨_,rfl⟩;rw [<-hT] at hcv2;have hTl:T.data.toList=Lib.decDigits (Af n d q true).1:=by rw [hT]
       have hb9:Below w.heap.size w (wr.setCell ⟨b,m,none⟩ (.int .u8 ((c.toNat:Int)+1))):=by
         rw [<-hb.out];exact Fr.below ((Fr.of_below hbe).setCell (fun _=>Nat.le_refl _) _) hbw fun i hi=>by omega
       have hc56:(c.toNat:Int)<=56:=by omega
       replace hres:=Hd hres;replace hTl:=Hd hTl;replace hb9:=Hd hb9;replace hM:=Hd hM;replace hdr:=Hd hdr;replace hMl:=Hd hMl;replace hbe:=Hd hbe;replace hc:=Hd hc;replace hdn:=Hd hdn;clear hge h57 r1 r2 hM2 hl9 hT hc1;go_wp2
       go_ret2
       exact ⟨T,by rw [<-hres.out];rfl,hTl.out,hb9.out⟩
set_option maxRecDepth 100000 in
set_option maxHeartbeats 6400000 in
theorem beside_down {s:ByteArray} {d n:Nat} {q x:Int} (hs:s.data.toList=Lib.decDigits d) (hn:1<=n) (h17:n<=17) (h0:10 ^ (n - 1)<=d) (h1:d<10 ^ n) (hx:x=q+(n:Int) - 1) (q0:-400<=q) (q1:q<=400) (w:World) :
   Calls Tryz.prog 39 #[.string s,.int .i64 x,.bool false] w fun e w' => ∃t:ByteArray,e=.returned (.tuple #[.string t,.int .i64 ((Af n d q false).2+(n:Int) - 1)])/\t.data.toList=Lib.decDigits (Af n d q false).1/\Below w.heap.size w w' := by
 have hsl:s.size=n:=by rw [Bm,hs,Lib.decDigits_length];exact C3 hn h0 h1
 obtain ⟨D,hD⟩:∃D,D=Lib.decDigits d:=⟨_,rfl⟩
 have hDl:D.length=n:=by rw [hD,<-hs,<-Bm,hsl]
 have hDd:∀c∈D,isD c=true:=by rw [hD];exact Br d
 have hcv:=Lib.run_convert_string_bytes (P:=Tryz.prog) w 9 50 5 s Tryz.underlying9 Tryz.underlying50 Tryz.underlying5
 have hm1:=mem_bytes w s
 obtain ⟨w1,hw1⟩:∃w1,w1=Lib.bytesWorld w 5 s:=⟨_,rfl⟩
 rw [<-hw1] at hcv hm1
 rw [hs,<-hD] at hm1
 have hb1:Below w.heap.size w w1:=by rw [hw1];exact Go.Joins.below_bytesWorld _ _ _ _ (Nat.le_refl _)
 obtain ⟨cp,hcp⟩:∃cp,cp=grownCap w s.size 0 5:=⟨_,rfl⟩
 rw [<-hcp,hsl] at hcv
 obtain ⟨b,hb⟩:∃b,b=w.heap.size:=⟨_,rfl⟩
 rw [<-hb] at hcv hm1
 have hb1' : Below b w w1:=by rw [hb];exact hb1
 have hn9:(n:Int)<=17:=by omega
 have hn0:(1:Int)<=(n:Int):=by omega
 have hx9:-500<=x/\x<=500:=by omega
 have hbw:b<=w.heap.size:=by omega
 replace hw1:=Hd hw1
 replace hcp:=Hd hcp
 replace hb:=Hd hb
 replace hD' := Hd hD
 replace hm1:=Hd hm1
 replace hs:=Hd hs
 replace hx:=Hd hx
 replace hDl:=Hd hDl
 clear hsl hb1 hD
 go_enter Tryz.func39,Tryz.ntmps39
 go_wp2_with fail
 go_loopw [9] (fun i wr=>∃(m:Nat) (z:Int),m<=n/\i=.int .i64 z/\z=(m:Int) - 1/\Mem wr b (D.take m++List.replicate (n - m) 57)/\D.drop m=List.replicate (n - m) 48/\Below b w wr) (fun i _=>(intOf i+1).toNat)
 case atStart=>exact ⟨n,(n:Int) - 1,Nat.le_refl _,rfl,rfl,by rw [Nat.sub_self,<-hDl.out,List.take_length];simpa using hm1.out,by rw [Nat.sub_self,<-hDl.out];simp,hb1'⟩
 case round=>
   obtain ⟨m,z,hm,rfl,hz,hM,hdr,hbe⟩:=hrel;have hMl:(D.take m++List.replicate (n - m) 57).length=n:=by rw [List.length_append,List.length_take,List.length_replicate,hDl.out];omega
   rcases m with _ | m
   · -- all noughts: not so
     exfalso;have hd0:0<d:=Nat.lt_of_lt_of_le (Nat.pow_pos (by decide)) h0;obtain ⟨c,l,e,hc⟩:=D5 hd0;rw [List.drop_zero,Nat.sub_zero,hD'.out,e] at hdr;have:c∈List.replicate n (48:UInt8):=by rw [<-hdr];exact List.mem_cons_self ..
     exact hc (List.eq_of_mem_replicate this)
   · have hmn:m<n:=by omega
     have hDm:m<D.length:=by rw [hDl.out];exact hmn
     obtain rfl:z=(m:Int):=by omega
     clear hz;have hmi:(m:Int)<(n:Int):=by omega
     obtain ⟨c,hc⟩:∃c,c=D[m]'hDm:=⟨_,rfl⟩;have hcd:isD c=true:=by rw [hc];exact hDd _ (List.getElem_mem hDm)
     have hcn:48<=c.toNat/\c.toNat<=57:=by unfold isD at hcd;simpa using hcd
     have hcell:=hM.cell m (by rw [hMl];exact hmn);have hge:∀h,(D.take (m+1)++List.replicate (n - (m+1)) (57:UInt8))[m]'h=c:=fun h=>by
       rw [List.getElem_append_left (by rw [List.length_take];omega),List.getElem_take,hc]
     rw [hge] at hcell;have hfz:=hM.blk.frz (o:=m) (by rw [hMl];exact hmn);have hdn:=drop_next hDl.out hmn hdr;rw [<-hc] at hdn;by_cases h48:c=48
     · have hcn48:(c.toNat:Int)=48:=by rw [h48];rfl
       have hM2:=hM.set (i:=m) (by rw [hMl];exact hmn) 57;rw [F8 hDl.out hmn,Gj 57 hmn] at hM2;have hdr2:D.drop m=List.replicate (n - m) 48:=by
         rw [List.drop_eq_getElem_cons hDm,hdr,<-hc,h48,Gj 48 hmn]
       have hb9:Below b w (wr.setCell ⟨b,m,none⟩ (.int .u8 ((57:UInt8).toNat:Int))):=
         Fr.below ((Fr.of_below hbe).setCell (fun _=>Nat.le_refl _) _) hbw fun i hi=>by omega
       replace hM:=Hd hM;replace hM2:=Hd hM2;replace hdr:=Hd hdr;replace hdr2:=Hd hdr2;replace hMl:=Hd hMl;replace hbe:=Hd hbe;replace hb9:=Hd hb9;replace hc:=Hd hc;replace hdn:=Hd hdn;clear hge h48;go_wp2
       go_round
       case rel=>exact ⟨m,(m:Int) - 1,by omega,rfl,rfl,hM2.out,hdr2.out,hb9.out⟩
       case measure=>simp [intOf]
     · have hcn48:¬(c.toNat:Int)=48:=fun e=>h48 (UInt8.toNat_inj.1 (by show c.toNat=48;omega))
       have q48:((c.toNat:Int) == 48)=false:=by simpa using hcn48
       have hc1:((c - 1).toNat:Int)=(c.toNat:Int) - 1:=by
         rw [UInt8.toNat_sub_of_le _ _ (by show 1<=c.toNat;omega)];show ((c.toNat - 1:Nat):Int)=_;omega
       have hM2:=hM.set (i:=m) (by rw [hMl];exact hmn) (c - 1);rw [F8 hDl.out hmn] at hM2;have hc49:49<=(c.toNat:Int):=by omega
       obtain ⟨W2,hW2⟩:∃W2,W2=wr.setCell ⟨b,m,none⟩ (.int .u8 ((c.toNat:Int) - 1)):=⟨_,rfl⟩;rw [hc1,<-hW2] at hM2;have hML2:(D.take m++(c - 1) :: List.replicate (n - (m+1)) 57).length=n:=by
         rw [List.length_append,List.length_take,List.length_cons,List.length_replicate,hDl.out];omega
       have hb2:Below b w W2:=by
         rw [hW2];exact Fr.below ((Fr.of_below hbe).setCell (fun _=>Nat.le_refl _) _) hbw fun i hi=>by omega
       by_cases hlow:m=0/\c=49
       · obtain ⟨hm0,hc9⟩:=hlow
         subst hm0;have hcc:(c.toNat:Int) - 1=48:=by rw [hc9];rfl
         have hcell0:=hM2.cell 0 (by rw [hML2];omega);have hfz0:=hM2.blk.frz (o:=0) (by rw [hML2];omega);replace hcell0:W2.cell? ⟨b,0,none⟩=some (.int .u8 48):=by
           rw [hcell0];show some (Value.int .u8 (((c - 1).toNat:Nat):Int))=_;rw [hc1,hcc]
         have hdd:Lib.decDigits d=49 :: List.replicate (n - 1) 48:=by
           have:=hdn;rw [List.take_zero,List.nil_append,hc9] at this;rw [<-hD'.out];simpa using this
         obtain ⟨r1,r2⟩:=beside_low (q:=q) hdd hn;have hM3:=hM2.set (i:=0) (by rw [hML2];omega) 57;rw [show (D.take 0++(c - 1) :: List.replicate (n - (0+1)) 57).set 0 57=57 :: List.replicate (n - 1) 57 by simp,r1] at hM3;have hl9:(Lib.decDigits (Af n d q false).1).length=n:=by rw [<-r1];simp;omega
         have hcv2:=hM3.text cp;rw [hl9,show ((57:UInt8).toNat:Int)=57 from rfl] at hcv2;have hres:x - 1=(Af n d q false).2+(n:Int) - 1:=by rw [r2,hx.out];omega
         obtain ⟨T,hT⟩:∃T:ByteArray,T=⟨(Lib.decDigits (Af n d q false).1).toArray⟩:=⟨_,rfl⟩;rw [<-hT] at hcv2;have hTl:T.data.toList=Lib.decDigits (Af n d q false).1:=by rw [hT]
         have hb9:Below w.heap.size w (W2.setCell ⟨b,0,none⟩ (.int .u8 57)):=by
           rw [<-hb.out];exact Fr.below ((Fr.of_below hb2).setCell (fun _=>Nat.le_refl _) _) hbw fun i hi=>by omega
         rw [hcc] at hW2;have hcc2:(c.toNat:Int)=49:=by omega
         rw [hcc2] at hcell;subst hW2;replace hres:=Hd hres;replace hTl:=Hd hTl;replace hb9:=Hd hb9;replace hb2:=Hd hb2;replace hM:=Hd hM;replace hdr:=Hd hdr;replace hMl:=Hd hMl;replace hML2:=Hd hML2;replace hbe:=Hd hbe;replace hc:=Hd hc;replace hdn:=Hd hdn;clear hge h48 r1 r2 hM2 hM3 hl9 hT hc1 hdd hc9 hcc hcc2 hcn48 q48 hc49;go_wp2
         go_ret2
         exact ⟨T,by rw [<-hres.out];rfl,hTl.out,hb9.out⟩
       · obtain ⟨r1,r2⟩:=beside_mid (A:=D.take m) (c:=c) (k:=n - (m+1)) (d:=d) (n:=n) (q:=q) (up:=false) (by rw [<-hD'.out];exact hdn) hn h0 h1 (by simpa using h48) (fun _ hA hc9=>hlow ⟨by
           have:=congrArg List.length hA;rw [List.length_take,List.length_nil] at this;omega,hc9⟩)
         simp only [Bool.false_eq_true,if_false] at r1;obtain ⟨c0,hc0⟩:∃c0:UInt8,W2.cell? ⟨b,0,none⟩=some (.int .u8 (c0.toNat:Int))/\c0≠48:=by
           have hR:0<(Af n d q false).1:=by
             have:=(E9 (q:=q) (up:=false) hn h0 h1).1;have:0<10 ^ (n - 1):=Nat.pow_pos (by decide);omega
           obtain ⟨c0,l0,e0,hc0⟩:=D5 hR;have h9:=hM2;rw [r1,e0] at h9;exact ⟨c0,h9.cell 0 (by simp),hc0⟩
         obtain ⟨hcell0,hc048⟩:=hc0;have hc0n:¬(c0.toNat:Int)=48:=fun e=>hc048 (UInt8.toNat_inj.1 (by show c0.toNat=48;omega));have q048:((c0.toNat:Int) == 48)=false:=by simpa using hc0n
         rw [r1] at hM2;have hl9:(Lib.decDigits (Af n d q false).1).length=n:=by rw [<-r1];exact hML2
         have hcv2:=hM2.text cp;rw [hl9] at hcv2;have hres:x=(Af n d q false).2+(n:Int) - 1:=by rw [r2,hx.out]
         obtain ⟨T,hT⟩:∃T:ByteArray,T=⟨(Lib.decDigits (Af n d q false).1).toArray⟩:=⟨_,rfl⟩;rw [<-hT] at hcv2;have hTl:T.data.toList=Lib.decDigits (Af n d q false).1:=by rw [hT]
         have hb9:Below w.heap.size w W2:=by rw [<-hb.out];exact hb2
         subst hW2;replace hres:=Hd hres;replace hTl:=Hd hTl;replace hb9:=Hd hb9;replace hb2:=Hd hb2;replace hM:=Hd hM;replace hdr:=Hd hdr;replace hMl:=Hd hMl;replace hML2:=Hd hML2;replace hbe:=Hd hbe;replace hc:=Hd hc;replace hdn:=Hd hdn;clear hge h48 r1 r2 hM2 hl9 hT hc1 hc048 hlow;go_wp2
         go_ret2
         exact ⟨T,by rw [<-hres.out];rfl,hTl.out,hb9.out⟩
theorem beside_any {s:ByteArray} {d n:Nat} {q x:Int} {up:Bool} (hs:s.data.toList=Lib.decDigits d) (hn:1<=n) (h17:n<=17) (h0:10 ^ (n - 1)<=d) (h1:d<10 ^ n) (hx:x=q+(n:Int) - 1) (q0:-400<=q) (q1:q<=400) (w:World) :
   Calls Tryz.prog 39 #[.string s,.int .i64 x,.bool up] w fun e w' => ∃t:ByteArray,e=.returned (.tuple #[.string t,.int .i64 ((Af n d q up).2+(n:Int) - 1)])/\t.data.toList=Lib.decDigits (Af n d q up).1/\Below w.heap.size w w' := by
 cases up
 · exact beside_down hs hn h17 h0 h1 hx q0 q1 w
 · exact beside_up hs hn h17 h0 h1 hx q0 q1 w
theorem seek_digL {r:Nat} (h:0<r) (hr:r<9218868437227405312):digL r≠[]:=by
 obtain ⟨c,T,e,_⟩:=dig_spec h hr;rw [e];simp
theorem Gb {r m D:Nat} {Q:Int} (h:0<r) (hr:r<9218868437227405312) (hs:Bb r 17 1=(m,D,Q)):layL (Lib.decDigits D) (Q+(m:Int) - 1)=Dj r/\Lib.decDigits D=digL r/\digL r≠[]:=by
 obtain ⟨a1,a2,_,_,_⟩:=seek_digs h hr;rw [hs] at a1 a2;dsimp only at a1 a2;have hne:=seek_digL h hr;obtain ⟨b1,b2⟩:=De hr;refine ⟨?_,a1,hne⟩;rw [a1,a2,lay_eff hne (by omega)];unfold Dj;have hex:expN r=Au r - 1:=by unfold expN;rw [if_neg hne]
 rw [if_neg (show ¬r=9218868437227405312 by omega),hex,show Au r - 1+1=Au r by omega]
theorem seek_step (r f n:Nat):Bb r (f+1) n=(if Cx r (fixN r n).1 (fixN r n).2 then (n,fixN r n)
   else if Cx r (Af n (fixN r n).1 (fixN r n).2 (decide ((fixN r n).1 * tT (fixN r n).2<vT r))).1 (Af n (fixN r n).1 (fixN r n).2 (decide ((fixN r n).1 * tT (fixN r n).2<vT r))).2 then
     (n,Af n (fixN r n).1 (fixN r n).2 (decide ((fixN r n).1 * tT (fixN r n).2<vT r)))
   else Bb r f (n+1)):=rfl
theorem seek_top {r:Nat} (h:0<r) (hr:r<9218868437227405312):Bb r 17 1≠Bb r 0 18:=by
 intro e;obtain ⟨_,_,_,_,a5⟩:=seek_digs h hr;rw [e] at a5;have:(Bb r 0 18).2.1=0:=rfl;omega
theorem order_nat {a b:Nat} (ha:a<=9218868437227405312) (hb:b<=9218868437227405312):FloatKind.f64.format.order a b=some (compare (a:Int) (b:Int)):=by
 have na:nanF a=false:=decide_eq_false (by omega);have nb:nanF b=false:=decide_eq_false (by omega);have:=C6 (x:=a) (y:=b) (by omega) (by omega) na nb;have ea:sv a=(a:Int):=by unfold sv;rw [if_neg (by omega)]
 have eb:sv b=(b:Int):=by unfold sv;rw [if_neg (by omega)]
 rw [ea,eb] at this;exact this
theorem order_eq {a b:Nat} (ha:a<=9218868437227405312) (hb:b<=9218868437227405312) (h:a=b):FloatKind.f64.format.order a b=some .eq:=by
 rw [order_nat ha hb,Int.compare_eq_eq.2 (by omega)]
theorem order_lt {a b:Nat} (ha:a<=9218868437227405312) (hb:b<=9218868437227405312) (h:a<b):FloatKind.f64.format.order a b=some .lt:=by
 rw [order_nat ha hb,Int.compare_eq_lt.2 (by omega)]
theorem order_gt {a b:Nat} (ha:a<=9218868437227405312) (hb:b<=9218868437227405312) (h:b<a):FloatKind.f64.format.order a b=some .gt:=by
 rw [order_nat ha hb,Int.compare_eq_gt.2 (by omega)]
set_option maxRecDepth 100000 in
set_option maxHeartbeats 6400000 in
theorem refText_any {n:Nat} (hn:n<18446744073709551616) {w:World} (hP:Par w) (hF:Flo w) (hR:Rng w) :
   Calls Tryz.prog 15 #[.float .f64 n] w fun e w' => e=.returned (.string ⟨(Bz n).toArray⟩)/\Below w.heap.size w w' := by
 have hbits:=Dr hn
 cases hnan:nanF n with
 | true=>
   rw [(Dz n).2 hnan] at hbits;rw [Gr hnan];replace hbits:=Hd hbits;clear hnan hP hF hR
   go_enter Tryz.func15,Tryz.ntmps15
   go_wp2_with fail
   refine (hbits.out _).mono ?_;rintro e w' ⟨rfl,hww⟩;obtain rfl:=hww.symm;clear hww;have hnc:((nanC:Nat):Int)=9221120237041090561:=rfl;go_wp2;go_ret;exact ⟨rfl,Below.refl _ _⟩
 | false=>
   have hc:B3 n=n:=by unfold B3;rw [hnan];rfl
   rw [hc] at hbits;have hsplit:=realL_bare hnan;have hr9:=nan_bound hnan;have nx:((n:Int) == 9221120237041090561)=false:=beq_eq_false_iff_ne.2 (fun e=>by unfold nanF at hnan;have:=of_decide_eq_false hnan;omega);have nx2:¬(n:Int)=9221120237041090561:=by simpa using nx
   obtain ⟨r,hre⟩:∃r,r=n % 9223372036854775808:=⟨_,rfl⟩;rw [<-hre] at hsplit hr9;obtain ⟨q,hq⟩:∃q:Nat,(n:Int) / 9223372036854775808=(q:Int):=⟨n / 9223372036854775808,by omega⟩;have hq1:q<=1:=by omega
   have hqr:(n:Int)=(q:Int) * 9223372036854775808+(r:Int):=by omega
   obtain ⟨nb,hnb⟩:∃nb:Bool,nb=decide (9223372036854775808<=n):=⟨_,rfl⟩;rw [<-hnb] at hsplit;have hnq:nb=decide (q=1):=by rw [hnb];exact decide_eq_decide.2 (by omega)
   have hreal:=Hd hsplit;replace hqr:=Hd hqr;replace hbits:=Hd hbits;replace hre:=Hd hre;replace hnq:=Hd hnq;replace hP:=Hd hP;replace hF:=Hd hF;replace hR:=Hd hR;have hn' := Hd hn;clear hnan hc hsplit hnb
   go_enter Tryz.func15,Tryz.ntmps15
   go_wp2_with fail
   refine (hbits.out _).mono ?_;rintro e w' ⟨rfl,hww⟩;obtain rfl:=hww.symm;clear hww
   go_upto_if 16 with fail
   go_cut [3,4] from 16 to 19 (fun s3 s4 wx=>∃S:ByteArray,s3=.int .u64 (r:Int)/\s4=.string S/\S.data.toList=At nb/\wx=w)
   case first=>
     obtain rfl | rfl:q=0\/q=1:=by omega
     · have hr0:(n:Int)=(r:Int):=by have:=hqr.out;omega
       have hb0:nb=false:=by rw [hnq.out];rfl
       have q1:(((0:Nat):Int) == 1)=false:=rfl;clear hqr;go_wp2_with fail
       go_meet
       exact ⟨⟨#[]⟩,by rw [<-hr0],rfl,by rw [hb0];rfl,rfl⟩
     · have hr0:(n:Int) - 9223372036854775808=(r:Int):=by have:=hqr.out;omega
       have hb0:nb=true:=by rw [hnq.out];rfl
       have q1:(((1:Nat):Int) == 1)=true:=rfl;have hn1:9223372036854775808<=(n:Int):=by have:=hqr.out;omega
       clear hqr;go_wp2_with fail
       go_meet
       exact ⟨⟨#[45]⟩,by rw [<-hr0],rfl,by rw [hb0];rfl,rfl⟩
   case rest=>
     obtain ⟨S,rfl,rfl,hS,hww⟩:=hcut;obtain rfl:=hww.symm;clear hww hqr nx nx2;have hSz:S.size<=1:=by rw [Bm,hS];cases nb<;>decide
     replace hS:=Hd hS;by_cases h0:r=0
     · have hTl:(S++(⟨#[48]⟩:ByteArray)).data.toList=Bz n:=by
         rw [ByteArray.data_append,Array.toList_append,hS.out,hreal.out,h0,bare_zero]
       have hz1:¬9223372036854775807<S.size+1:=by omega
       subst h0;have hTe:=Hd (Fu hTl);clear hTl;go_wp2;go_ret;exact ⟨by rw [<-hTe.out];rfl,Below.refl _ _⟩
     by_cases hi:r=9218868437227405312
     · have hTl:(S++(⟨#[105,110,102]⟩:ByteArray)).data.toList=Bz n:=by
         rw [ByteArray.data_append,Array.toList_append,hS.out,hreal.out,hi];unfold Dj;rw [if_pos rfl]
       have hz1:¬9223372036854775807<S.size+3:=by omega
       subst hi;have hTe:=Hd (Fu hTl);clear hTl;go_wp2;go_ret;exact ⟨by rw [<-hTe.out];rfl,Below.refl _ _⟩
     have e0:((r:Int) == 0)=false:=beq_eq_false_iff_ne.2 (by omega);have ei:((r:Int) == 9218868437227405312)=false:=beq_eq_false_iff_ne.2 (by omega);have h0:0<r:=by omega
     have hr9:r<9218868437227405312:=by omega
     have hfr:∀w,(callFunc 9 #[.int .u64 (r:Int)]).run Tryz.prog w=.ok (.value (.float .f64 r)) w:=fun w=>Cb r w;have hbr:(Dj r).length<=1100:=bareL_len (by omega);replace hbr:=Hd hbr;go_wp2_with fail
     go_loopw [6,7,8,9] (fun i _ _ _ wr=>∃m:Nat,1<=m/\m<=18/\i=.int .i64 (m:Int)/\Bb r 17 1=Bb r (18 - m) m/\Below w.heap.size w wr) (fun i _ _ _ _=>18 - (intOf i).toNat)
     case atStart=>exact ⟨1,Nat.le_refl _,by decide,rfl,rfl,Below.refl _ _⟩
     case round=>
       obtain ⟨m,hm1,hm18,rfl,hsk,hbe⟩:=hrel;rcases Nat.eq_or_lt_of_le hm18 with hm | hm
       · subst hm
         exact absurd hsk (seek_top h0 hr9)
       have hmi:(m:Int)<=17:=by omega
       obtain ⟨hfx,_,_⟩:=D9 h0 hr9 hm1 (show m<=17 by omega);obtain ⟨pl0,pl1⟩:=fix_place h0 hr9 hm1 (show m<=17 by omega);have hsd:=fun R=>read_side (r:=r) (R:=R) (d:=(fixN r m).1) (q:=(fixN r m).2) h0 (by omega);have hsm:=fun R=>read_same (r:=r) (R:=R) (d:=(fixN r m).1) (q:=(fixN r m).2) (by omega);have hbl:=fun up=>E9 (n:=m) (d:=(fixN r m).1) (q:=(fixN r m).2) (up:=up) hm1 hfx.low hfx.high;rw [show 18 - m=(17 - m)+1 by omega] at hsk;replace hsk:=hsk.trans (seek_step r (17 - m) m);have hne:=nearest_any (w:=wr) h0 hr9 hm1 (show m<=17 by omega) (hF.out.below' hbe) (show Opt wr from (hP.out.below hbe).opt);obtain ⟨D,hD⟩:∃D,D=(fixN r m).1:=⟨_,rfl⟩;obtain ⟨Q,hQ⟩:∃Q,Q=(fixN r m).2:=⟨_,rfl⟩;have hfxE:fixN r m=(D,Q):=by rw [hD,hQ]
       have hlow:=hfx.low;have hhigh:=hfx.high;rw [hfxE] at hsk hne hsd hsm hbl hlow hhigh pl0 pl1;dsimp only at hsk hne hsd hsm hbl hlow hhigh pl0 pl1;have hD0:0<D:=Nat.lt_of_lt_of_le (Nat.pow_pos (by decide)) hlow;have hND:Lib.nDigits D=m:=C3 hm1 hlow hhigh;clear hfx hD hQ hfxE;replace hsk:=Hd hsk;replace hne:=Hd hne;replace hbe:=Hd hbe;replace hsd:=Hd hsd;replace hsm:=Hd hsm;replace hbl:=Hd hbl;replace hND:=Hd hND;replace hlow:=Hd hlow;replace hhigh:=Hd hhigh;go_wp2_with fail
       refine hne.out.mono ?_;rintro e w2 ⟨t,rfl,ht,hb2⟩;obtain ⟨x,hx⟩:∃x:Int,x=Q+(m:Int) - 1:=⟨_,rfl⟩;rw [<-hx];have hb02:=hbe.out.trans (hb2.mono hbe.out.size);have hpa:=parsed_any (x:=x) (q:=Q) ht hD0 (by rw [hND.out];omega) (by rw [hND.out];exact hx) (by omega) (by omega) (hP.out.below hb02) (hF.out.below' hb02) (hR.out.below hb02);have hx9:-400<=x/\x<=400:=by omega
       replace hx:=Hd hx;replace ht' := Hd ht;replace hb02:=Hd hb02;replace hpa:=Hd hpa;clear hb2 ht;go_wp2_with fail
       refine hpa.out.mono ?_;rintro e w3 ⟨R,hI,rfl,hb3⟩;have hb03:=hb02.out.trans (hb3.mono hb02.out.size);obtain ⟨M,hM⟩:∃M,M=min R 9218868437227405312:=⟨_,rfl⟩;rw [<-hM];have hM9:M<=9218868437227405312:=by omega
       have hMr:M=r ↔ Cx r D Q=true:=by rw [<-hsm.out R hI];omega
       have hMl:M≠r->(M<r ↔ D * tT Q<vT r):=fun h=>by
         rw [<-hsd.out R hI (by omega)];omega
       clear hb3 hI hM;by_cases hrd:Cx r D Q=true
       · have hseek:Bb r 17 1=(m,D,Q):=by rw [hsk.out,if_pos hrd]
         have hor:=order_eq hM9 (Nat.le_of_lt hr9) (hMr.2 hrd);have hMe:=hMr.2 hrd;subst hMe;have ht:=ht'.out;have hxe:=hx.out;subst hxe;have hb9:=hb03;have hNDm:=hND.out;clear hMr hMl hM9;replace hseek' := Hd hseek;replace ht2:=Hd ht;replace hb9' := Hd hb9;clear hseek ht hb9 hb03;go_wp2_with fail
         have hseek:=hseek'.out;have ht:=ht2.out;have hb9:=hb9'.out;obtain ⟨tl1,tl2,tl3⟩:=Gb h0 hr9 hseek;refine (layout_any ht (by rw [tl2];exact tl3) (by rw [Lib.decDigits_length];omega) (by omega) (by omega) _).mono ?_;rintro e w5 ⟨T,rfl,hT,hb5⟩;rw [tl1] at hT;have hTz:T.size<=1100:=by rw [Bm,hT];exact bareL_len (by omega)
         have hTz1:¬9223372036854775807<S.size+T.size:=by omega
         have hb05:=hb9.trans (hb5.mono hb9.size);have hTl:(S++T).data.toList=Bz n:=by
           rw [ByteArray.data_append,Array.toList_append,hS.out,hT,hreal.out]
         have hTe:=Hd (Fu hTl);clear hTl;replace hT:=Hd hT;replace hTz:=Hd hTz;replace hb05:=Hd hb05;clear ht hseek tl1 tl2 tl3;go_wp2;go_ret;exact ⟨by rw [<-hTe.out];rfl,hb05.out⟩
       · have hMne:M≠r:=fun e=>hrd (hMr.1 e)
         have hup:=hMl hMne;obtain ⟨up,hupE⟩:∃up:Bool,up=decide (D * tT Q<vT r):=⟨_,rfl⟩;have hupM:up=decide (M<r):=by rw [hupE];exact decide_eq_decide.2 hup.symm
         have hsk2:=hsk.out;rw [if_neg hrd,<-hupE] at hsk2;obtain ⟨b0,b1,b2,b3⟩:=hbl.out up;obtain ⟨D2,hD2⟩:∃D2,D2=(Af m D Q up).1:=⟨_,rfl⟩;obtain ⟨Q2,hQ2⟩:∃Q2,Q2=(Af m D Q up).2:=⟨_,rfl⟩;have hbsE:Af m D Q up=(D2,Q2):=by rw [hD2,hQ2]
         have hbs:=beside_any (x:=x) (up:=up) ht'.out hm1 (show m<=17 by omega) hlow.out hhigh.out hx.out (by omega) (by omega);rw [hbsE] at hbs hsk2 b0 b1 b2 b3;dsimp only at hbs hsk2 b0 b1 b2 b3;have hD20:0<D2:=Nat.lt_of_lt_of_le (Nat.pow_pos (by decide)) b0;have hND2:Lib.nDigits D2=m:=C3 hm1 b0 b1;have hsm2:=fun R=>read_same (r:=r) (R:=R) (d:=D2) (q:=Q2) (by omega);replace hsk2:=Hd hsk2;replace hbs:=Hd hbs;replace hsm2:=Hd hsm2;replace hND2:=Hd hND2;replace hb03:=Hd hb03;have hor:∃o,FloatKind.f64.format.order M r=some o/\(o == Ordering.eq)=false/\(o == Ordering.lt)=up:=by
           rcases Nat.lt_or_gt_of_ne hMne with h9 | h9
           · exact ⟨.lt,order_lt hM9 (Nat.le_of_lt hr9) h9,rfl,by rw [hupM,decide_eq_true h9];rfl⟩
           · exact ⟨.gt,order_gt hM9 (Nat.le_of_lt hr9) h9,rfl,by rw [hupM,decide_eq_false (by omega)];rfl⟩
         obtain ⟨o,ho1,ho2,ho3⟩:=hor;have ho2' : (some o == some Ordering.eq)=false:=ho2;have ho3' : (some o == some Ordering.lt)=up:=ho3;clear hMr hMl hup hupE hupM hD2 hQ2 hbsE b0 b1 hrd hMne ho2 ho3;go_wp2_with fail
         refine (hbs.out _).mono ?_;rintro e w4 ⟨t2,rfl,ht2,hb4⟩;obtain ⟨x2,hx2⟩:∃x:Int,x=Q2+(m:Int) - 1:=⟨_,rfl⟩;rw [<-hx2];have hb04:=hb03.out.trans (hb4.mono hb03.out.size);have hpa2:=parsed_any (x:=x2) (q:=Q2) ht2 hD20 (by rw [hND2.out];omega) (by rw [hND2.out];exact hx2) (by omega) (by omega) (hP.out.below hb04) (hF.out.below' hb04) (hR.out.below hb04);have hx29:-400<=x2/\x2<=400:=by omega
         replace hx2:=Hd hx2;replace ht2' := Hd ht2;replace hb04:=Hd hb04;replace hpa2:=Hd hpa2;clear hb4 ht2 ho1 ho2' ho3';go_wp2_with fail
         refine hpa2.out.mono ?_;rintro e w5 ⟨R2,hI2,rfl,hb5⟩;have hb05:=hb04.out.trans (hb5.mono hb04.out.size);obtain ⟨M2,hM2⟩:∃M,M=min R2 9218868437227405312:=⟨_,rfl⟩;rw [<-hM2];have hM29:M2<=9218868437227405312:=by omega
         have hMr2:M2=r ↔ Cx r D2 Q2=true:=by rw [<-hsm2.out R2 hI2];omega
         clear hb5 hI2 hM2;by_cases hrd2:Cx r D2 Q2=true
         · have hseek:Bb r 17 1=(m,D2,Q2):=by rw [hsk2.out,if_pos hrd2]
           have hor:=order_eq hM29 (Nat.le_of_lt hr9) (hMr2.2 hrd2);have hMe:=hMr2.2 hrd2;subst hMe;have hxe:=hx2.out;subst hxe;have hNDm:=hND2.out;replace hb05:=Hd hb05;replace hseek' := Hd hseek;clear hMr2 hM29 hseek;go_wp2_with fail
           have hseek:=hseek'.out;have ht:=ht2'.out;have hb9:=hb05.out;obtain ⟨tl1,tl2,tl3⟩:=Gb h0 hr9 hseek;refine (layout_any ht (by rw [tl2];exact tl3) (by rw [Lib.decDigits_length];omega) (by omega) (by omega) _).mono ?_;rintro e w5 ⟨T,rfl,hT,hb5⟩;rw [tl1] at hT;have hTz:T.size<=1100:=by rw [Bm,hT];exact bareL_len (by omega)
           have hTz1:¬9223372036854775807<S.size+T.size:=by omega
           have hb05:=hb9.trans (hb5.mono hb9.size);have hTl:(S++T).data.toList=Bz n:=by
             rw [ByteArray.data_append,Array.toList_append,hS.out,hT,hreal.out]
           have hTe:=Hd (Fu hTl);clear hTl;replace hT:=Hd hT;replace hTz:=Hd hTz;replace hb05:=Hd hb05;clear ht hseek tl1 tl2 tl3;go_wp2;go_ret;exact ⟨by rw [<-hTe.out];rfl,hb05.out⟩
         · have hMne2:M2≠r:=fun e=>hrd2 (hMr2.1 e)
           have hor:∃o,FloatKind.f64.format.order M2 r=some o/\(o == Ordering.eq)=false:=by
             rcases Nat.lt_or_gt_of_ne hMne2 with h9 | h9
             · exact ⟨.lt,order_lt hM29 (Nat.le_of_lt hr9) h9,rfl⟩
             · exact ⟨.gt,order_gt hM29 (Nat.le_of_lt hr9) h9,rfl⟩
           obtain ⟨o2,ho21,ho22⟩:=hor;have ho22' : (some o2 == some Ordering.eq)=false:=ho22;have hnext:Bb r 17 1=Bb r (18 - (m+1)) (m+1):=by
             rw [hsk2.out,if_neg hrd2,show 18 - (m+1)=17 - m by omega]
           replace hnext:=Hd hnext;replace hb05:=Hd hb05;clear hMr2 hM29 hrd2 hMne2 ho22;go_wp2_with fail
           go_roundw
           case rel=>exact ⟨m+1,by omega,by omega,by go_num,hnext.out,hb05.out⟩
           case measure=>simp [intOf];omega
end Go.Proofs.YteoalcmhdoopnaaGreatDoor
