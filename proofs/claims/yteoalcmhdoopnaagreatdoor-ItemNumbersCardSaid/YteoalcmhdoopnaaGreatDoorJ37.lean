/- A number's text but its sign (no program in sight but for what came ahead). -/
import Derived.Test.YteoalcmhdoopnaaGreatDoorRTxt
import Derived.Test.YteoalcmhdoopnaaGreatDoorJ30
import Derived.Test.YteoalcmhdoopnaaGreatDoorRight2
import Derived.Lib.SmallJoins
import Derived.Test.YteoalcmhdoopnaaGreatDoorJ57
namespace Go.Proofs.YteoalcmhdoopnaaGreatDoor
def Dj (r:Nat):List UInt8:=if r=9218868437227405312 then [105,110,102] else if expN r < -4\/21<=expN r then effE false (digL r) (Au r) else effF false (digL r) (Au r)
theorem effE_sign (neg:Bool) (D:List UInt8) (dp:Int):effE neg D dp=At neg++effE false D dp:=by unfold effE;simp [At]
theorem effF_sign (neg:Bool) (D:List UInt8) (dp:Int):effF neg D dp=At neg++effF false D dp:=by unfold effF;simp [At]
theorem realL_bare {n:Nat} (hn:nanF n=false):Bz n=At (decide (9223372036854775808<=n))++Dj (n % 9223372036854775808):=by
 by_cases h:n % 9223372036854775808=9218868437227405312
 · rw [realL_inf hn h];unfold Dj;rw [if_pos h]
 · rw [realL_num hn h];unfold Dj;rw [if_neg h]
   split
   · exact effE_sign _ _ _
   · exact effF_sign _ _ _
theorem effE_len (neg:Bool) (D:List UInt8) (dp:Int):(effE neg D dp).length<=10+D.length:=by
 rw [effE_front,List.length_append,List.length_cons];have h1:=front_len neg D;have h2:=expL_len (if D=[] then 0 else dp - 1);omega
theorem effF_len (neg:Bool) (D:List UInt8) (dp:Int) (h0:-400<=dp) (h1:dp<=400):(effF neg D dp).length<=1000+2 * D.length:=by
 unfold effF;rw [List.length_append,List.length_append];have e0:(At neg).length<=1:=by unfold At;split<;>simp
 have e1:(if 0<dp then D.take dp.toNat++List.replicate (dp.toNat - D.length) 48 else [48]:List UInt8).length<=401+D.length:=by
   split
   · rw [List.length_append,List.length_replicate,List.length_take];omega
   · simp;omega
 have e2:(if dp<D.length then 46 :: (List.replicate (-dp).toNat 48++D.drop dp.toNat) else []:List UInt8).length<=401+D.length:=by
   split
   · rw [List.length_cons,List.length_append,List.length_replicate,List.length_drop];omega
   · simp
 omega
theorem bareL_len {r:Nat} (h:r<=9218868437227405312):(Dj r).length<=1100:=by
 unfold Dj;split
 · simp
 · have h1:=digL_len r (by omega)
   have h2:=De (r:=r) (by omega);split
   · have:=effE_len false (digL r) (Au r);omega
   · have:=effF_len false (digL r) (Au r) h2.1 h2.2;omega
theorem nDig_le:∀k u:Nat,u<10 ^ (k+1)->Lib.nDigits u<=k+1
 | 0,u,h=>by rw [Lib.nDigits_small (by simpa using h)];exact Nat.le_refl _
 | k+1,u,h=>by
   by_cases h1:u<10
   · rw [Lib.nDigits_small h1];omega
   · rw [Lib.nDigits_big h1]
     have:=nDig_le k (u / 10) (by rw [Nat.pow_succ] at h;omega);omega
end Go.Proofs.YteoalcmhdoopnaaGreatDoor
namespace Go.Proofs.YteoalcmhdoopnaaGreatDoor
open Go.RowKit
theorem num_head {s:ByteArray} {neg:Bool} {c:UInt8} {l:List UInt8} (h:s.data.toList=(if neg then [45] else [])++c :: l) (hc:isD c=true) :
   (s.toList == [105,110,102])=false/\(s.toList == [45,105,110,102])=false/\(s.toList == [110,97,110])=false:=by
 have key:∀x:UInt8,isD x=false->c≠x:=fun x hx e=>by rw [e,hx] at hc;cases hc
 have h1:=key 105 (by decide)
 have h2:=key 110 (by decide)
 rw [ByteArray.toList_eq,h]
 cases neg
 · refine ⟨?_,?_,?_⟩<;>simp [h1,h2]<;>(intro e;exact absurd e (by have:=key 45 (by decide);simpa using this))
 · refine ⟨?_,?_,?_⟩<;>simp [h1,h2]
theorem Par.below {w w' : World} (h:Par w) (hb:Below w.heap.size w w'):Par w' := by
 obtain ⟨h1,h2,b,c,h3,h4⟩:=h;exact ⟨Bx hb _ _ h1,Bx hb _ _ h2,b,c,Bx hb _ _ h3,fun i z hz=>by
   have h5:=h4 i z hz;exact (hb.cell (World.block_lt_of_cell? _ _ h5)).trans h5⟩
theorem Flo.below {w w' : World} (h:Flo w) (hb:Below w.heap.size w w'):Flo w' := ⟨h.pows.below hb h.pows.lt,Go.Joins.tab_stays A8 h.tens hb (Nat.le_refl _)⟩
end Go.Proofs.YteoalcmhdoopnaaGreatDoor
namespace Go.Proofs.YteoalcmhdoopnaaGreatDoor
open Go.ChangeShapes Go.WideShapes Go.ChangeAt Go.RowKit
theorem opt_of {W : World} (h : laidMet Tryz.prog [("internal/strconv.optimize", .lit (.bool true))] W) : W.cell? ⟨4, 0, none⟩ = some (.bool true) := by
 obtain ⟨ps,⟨g', t', cs,fuel,p,q,hg', ht', hvar,hd,_,_⟩,_⟩:=h;obtain rfl : 4 = g' := Option.some.inj ((show Tryz.prog.globalNamed "internal/strconv.optimize" = some 4 by kernel_rfl).symm.trans hg');obtain rfl:4=t' := Option.some.inj ((show (Tryz.prog.globals[4]?).map (·.type)=some 4 by kernel_rfl).symm.trans ht')
 obtain ⟨b,h1,h2⟩:=DataW.trod_bool Tryz.underlying4 hd;have h3:b=true:=by
   have:=congrArg Prod.fst h2;simp only [DataW.lit.injEq,Lit.bool.injEq] at this;exact this.symm
 rw [World.var?_cell hg' hvar 0,<-Array.getElem?_toList,h1,h3];rfl
theorem info_of {W : World} (h : laidMet Tryz.prog [("internal/strconv.float64info", .agg [.lit (.int .u64 52), .lit (.int .u64 11), .lit (.int .i64 (-1023))])] W) : W.cell? ⟨7, 0, none⟩ = some (.int .u64 52) := by
 obtain ⟨ps,⟨g', t', cs,fuel,p,q,hg', ht', hvar,hd,_,_⟩,_⟩:=h;obtain rfl : 7 = g' := Option.some.inj ((show Tryz.prog.globalNamed "internal/strconv.float64info" = some 7 by kernel_rfl).symm.trans hg');obtain rfl:160=t' := Option.some.inj ((show (Tryz.prog.globals[7]?).map (·.type)=some 160 by kernel_rfl).symm.trans ht')
 obtain ⟨ys,n,rfl,hyy,hyl,hys,hyf⟩:=DataW.trod_struct Tryz.underlying160 hd;have hc1:Tryz.prog.cellsOf 68=1:=by kernel_rfl
 have hym:ys.map (·.1)=[DataW.lit (.int .u64 52),.lit (.int .u64 11),.lit (.int .i64 (-1023))]:=by
   have:=congrArg Prod.fst hyy;simp only [DataW.agg.injEq] at this;exact this.symm
 obtain ⟨y0,y1,y2,rfl⟩:∃y0 y1 y2,ys=[y0,y1,y2]:=by
   match ys,hys with
   | [a,b,c],_=>exact ⟨a,b,c,rfl⟩
 simp only [List.map_cons,List.map_nil,List.cons.injEq,and_true] at hym;have hf0:DataW.trod (fun _=>()) Tryz.prog W 0 (fun _=>true) false n 68 ((cs.toList.drop 0).take 1)=some y0:=by
   have:=hyf 0 _ rfl;rw [show (#[(_:Field),_,_])[0].type=68 from rfl,hc1] at this;exact this
 obtain ⟨v,h1,h2,_⟩:=DataW.trod_int Tryz.underlying68 hf0;have h3:v=52:=by
   have:=hym.1;rw [h2] at this;simpa using this
 rw [World.var?_cell hg' hvar 0,<-Array.getElem?_toList];have h4:=congrArg (·[0]?) h1
 simp only [List.getElem?_take,List.getElem?_drop] at h4;rw [if_pos (by omega)] at h4;rw [h3] at h4;simpa using h4
theorem tens_of {W : World} (h : laidMet Tryz.prog [("internal/strconv.float64pow10", .slice (f10L.map fun z => .lit (.float .f64 z)) [])] W) :
   ∃(b:Addr) (c:Nat),W.cell? ⟨10,0,none⟩=some (.slice (some b) 23 c)/\∀i z,f10L[i]?=some z->W.cell? (b.add i)=some (.float .f64 z):=by
 obtain ⟨ps,⟨g', t', cs,fuel,p,q,hg', ht', hvar,hd,_,_⟩,_⟩:=h
 obtain rfl : 10 = g' := Option.some.inj ((show Tryz.prog.globalNamed "internal/strconv.float64pow10" = some 10 by kernel_rfl).symm.trans hg')
 obtain rfl:196=t' := Option.some.inj ((show (Tryz.prog.globals[10]?).map (·.type)=some 196 by kernel_rfl).symm.trans ht')
 have hc1:Tryz.prog.cellsOf 28=1:=by kernel_rfl
 rcases DataW.trod_slice Tryz.underlying196 hd with ⟨_,h2⟩ | ⟨a,len,cap,elems,rest,n,rfl,h1,h2,hb,hlc,hcm,hel,hat,_,_⟩
 · have:=congrArg Prod.fst h2
   cases this
 · have hem:elems.map (·.1)=f10L.map fun z=>(DataW.lit (.float .f64 z):DataW Unit):=by
     have:=congrArg Prod.fst h2;simp only [DataW.slice.injEq] at this;exact this.1.symm
   have hl23:len=23:=by
     have:=congrArg List.length hem;rw [List.length_map,List.length_map,hel] at this;exact this
   rw [hc1] at hat;refine ⟨a,cap,?_,fun i z hz=>?_⟩
   · rw [World.var?_cell hg' hvar 0,<-Array.getElem?_toList,h1,hl23];rfl
   · have hi:i<23:=(List.getElem?_eq_some_iff.1 hz).1
     have h3:=hat i (by omega);have h4:(elems.map (·.1))[i]?=some (DataW.lit (.float .f64 z)):=by rw [hem,List.getElem?_map,hz];rfl
     rw [List.getElem?_map,Option.map_eq_some_iff] at h4;obtain ⟨y,hy,hy1⟩:=h4;rw [hy,Option.bind_eq_some_iff] at h3;obtain ⟨l,hl,ht⟩:=h3;obtain ⟨v,h5,h6⟩:=trod_float Tryz.underlying28 ht;have h7:v=z:=by rw [h6] at hy1;simpa using hy1
     rw [h5,h7,Nat.mul_one] at hl;exact cell_of_cells?_one hl
theorem par_of {W:World} {laid:List (String × DataW Unit)} (h0:laidMetH Tryz.prog laid W) (hp:(laid.all fun x=>x.2.handleName?.isNone)=true)
   (e1 : laid.filter (fun x => x.1 == "internal/strconv.optimize") = [("internal/strconv.optimize", .lit (.bool true))])
   (e2 : laid.filter (fun x => x.1 == "internal/strconv.float64info") = [("internal/strconv.float64info", .agg [.lit (.int .u64 52), .lit (.int .u64 11), .lit (.int .i64 (-1023))])])
   (e3 : laid.filter (fun x => x.1 == "internal/strconv.float64pow10") = [("internal/strconv.float64pow10", .slice (f10L.map fun z => .lit (.float .f64 z)) [])]) : Par W := by
 rw [MakeChecks.laidMetH_plain _ _ _ hp] at h0
 have h1 := h0.filter (fun x => x.1 == "internal/strconv.optimize")
 have h2 := h0.filter (fun x => x.1 == "internal/strconv.float64info")
 have h3 := h0.filter (fun x => x.1 == "internal/strconv.float64pow10")
 rw [e1] at h1
 rw [e2] at h2
 rw [e3] at h3
 exact ⟨opt_of h1,info_of h2,tens_of h3⟩
theorem flo_of {W:World} {laid:List (String × DataW Unit)} (h0:laidMetH Tryz.prog laid W) (hp:(laid.all fun x=>x.2.handleName?.isNone)=true)
   (e1 : laid.filter (fun x => x.1 == "internal/strconv.uint64pow10") = [("internal/strconv.uint64pow10", Lib.tabData .u64 Lib.pow10Tab)])
   (e2 : laid.filter (fun x => x.1 == "internal/strconv.pow10Tab") = [("internal/strconv.pow10Tab", Go.Pinned.pow10Tab)]) : Flo W := by
 rw [MakeChecks.laidMetH_plain _ _ _ hp] at h0
 have h1 := h0.filter (fun x => x.1 == "internal/strconv.uint64pow10")
 have h2 := h0.filter (fun x => x.1 == "internal/strconv.pow10Tab")
 rw [e1] at h1
 rw [e2] at h2
 exact ⟨pows_of h2,Lib.tabIs_of_head (g:=3) (t:=132) (e:=25) (n:=20) (by kernel_rfl) (by kernel_rfl) Tryz.underlying132 Tryz.underlying25 (by kernel_rfl) (by kernel_rfl) h1⟩
end Go.Proofs.YteoalcmhdoopnaaGreatDoor
namespace Go.Proofs.YteoalcmhdoopnaaGreatDoor
theorem Bm (s:ByteArray):s.size=s.data.toList.length:=by rw [Array.length_toList];rfl
theorem exp_head {X:List UInt8} {x:Int} (h:ExpAt X x):∀c l,X=c :: l->c=101:=by
 intro c l e;cases h with
 | none=>cases e
 | bare _ _=>cases e;rfl
 | plus _ _=>cases e;rfl
 | minus _ _=>cases e;rfl
theorem exp_okC {X:List UInt8} {x:Int} (h:ExpAt X x):∀b∈X,okC b:=by
 intro b hb;cases h with
 | none=>cases hb
 | bare _ hd=>
   rcases List.mem_cons.1 hb with rfl | hb
   · exact .inr (.inr (.inl rfl))
   · exact .inl (hd b hb)
 | plus _ hd=>
   rcases List.mem_cons.1 hb with rfl | hb
   · exact .inr (.inr (.inl rfl))
   · rcases List.mem_cons.1 hb with rfl | hb
     · exact .inr (.inr (.inr (.inl rfl)))
     · exact .inl (hd b hb)
 | minus _ hd=>
   rcases List.mem_cons.1 hb with rfl | hb
   · exact .inr (.inr (.inl rfl))
   · rcases List.mem_cons.1 hb with rfl | hb
     · exact .inr (.inr (.inr (.inr rfl)))
     · exact .inl (hd b hb)
def Bq (fr:Bool) (F:List UInt8):List UInt8:=if fr then 46 :: F else []
theorem scan_exp {X:List UInt8} {x:Int} (h:ExpAt X x) (d:Bool) (L:List UInt8) (m:Nat):Bn X d L m=(d,L,m,X):=by
 cases hx:X with
 | nil=>rfl
 | cons c l=>
   have:=exp_head h c l hx;subst this;rw [Bn,if_neg (by decide),if_neg (by decide)]
theorem scan_form {A F X:List UInt8} {fr:Bool} {x:Int} (hAd:∀c∈A,isD c=true) (hF:fr=false->F=[]) (hFd:∀c∈F,isD c=true) (hX:ExpAt X x) :
   Bn (A++(Bq fr F++X)) false [] 0=(fr,A++F,if fr then F.length else A.length,X):=by
 rw [Dc hAd,List.nil_append,Nat.zero_add]
 cases fr
 · rw [hF rfl]
   show Bn X false A A.length=_;rw [scan_exp hX,List.append_nil];rfl
 · show Bn (46 :: (F++X)) false A A.length=_
   rw [Bn,if_pos (by decide),if_neg (by decide),Dc hFd,scan_exp hX,Nat.zero_add];rfl
theorem txt_form {s:ByteArray} {A F X:List UInt8} {fr:Bool} {x:Int} {neg:Bool} (hs:s.data.toList=At neg++(A++(Bq fr F++X))) (hz:s.size<=1000) (hA:A≠[]) (hAd:∀c∈A,isD c=true) (hF:fr=false->F=[])
   (hFd:∀c∈F,isD c=true) (hX:ExpAt X x):FTxt s neg fr (A++F) (if fr then F.length else A.length) x/\∃c l,s.data.toList=(if neg then [45] else [])++c :: l/\isD c=true:=by
 cases hAe:A with
 | nil=>exact absurd hAe hA
 | cons c T=>
   have hc:=hAd c (by rw [hAe];exact List.mem_cons_self ..);have e:A++(Bq fr F++X)=c :: (T++(Bq fr F++X)):=by rw [hAe];rfl
   rw [<-hAe];refine ⟨⟨⟨c,T++(Bq fr F++X),X,?_,hc,?_,hX,?_⟩,hz,fun e=>hA (List.append_eq_nil_iff.1 e).1⟩,c,T++(Bq fr F++X),?_,hc⟩
   · rw [hs,e];rfl
   · rw [<-e];exact scan_form hAd hF hFd hX
   · intro b hb
     rw [<-e] at hb;rcases List.mem_append.1 hb with hb | hb
     · exact .inl (hAd b hb)
     · rcases List.mem_append.1 hb with hb | hb
       · unfold Bq at hb
         cases fr
         · cases hb
         · rcases List.mem_cons.1 hb with rfl | hb
           · exact .inr (.inl rfl)
           · exact .inl (hFd b hb)
       · exact exp_okC hX b hb
   · rw [hs,e];rfl
theorem decA_tens {d r:Nat}:∀(j:Nat) (p:Int),InI r (decA (d * 10 ^ j) p) (Ah p) ↔ InI r (decA d (p+j)) (Ah (p+j))
 | 0,p=>by simp
 | j+1,p=>by
   rw [Nat.pow_succ,<-Nat.mul_assoc,decA_ten,decA_tens j (1+p),show 1+p+(j:Int)=p+((j+1:Nat):Int) by omega]
theorem dig_spec {r:Nat} (h0:0<r) (hr:r<9218868437227405312):∃c T,digL r=c :: T/\c≠48/\(digL r).length<=18/\InI r (decA (valD (digL r)) (Au r - (digL r).length)) (Ah (Au r - (digL r).length))/\0<valD (digL r):=by
 obtain ⟨a,b,_,_⟩:=Cw h0 hr;have hok:=short_ok h0 hr;unfold digL Au;rw [if_neg (by omega),if_neg (by omega)];obtain ⟨d,hd⟩:∃d,(Ae r).1=d:=⟨_,rfl⟩;obtain ⟨q,hq⟩:∃q,(Ae r).2=q:=⟨_,rfl⟩;rw [hd] at a b hok ⊢;rw [hq] at hok ⊢;obtain ⟨n,hn⟩:=Cr (Lib.decDigits d);have hlen:=congrArg List.length hn;rw [List.length_append,List.length_replicate,Lib.decDigits_length] at hlen;have hval:d=valD (Ai (Lib.decDigits d)) * 10 ^ n:=by
   have h1:=stripZ_val (Lib.decDigits d);rw [B1,Lib.decDigits_length,hlen,Nat.add_sub_cancel_left] at h1;exact h1
 have h18:Lib.nDigits d<=18:=nDig_le 17 d b;obtain ⟨c,l,hc,hc48⟩:=D5 (u:=d) a;obtain ⟨D,hD⟩:∃D,Ai (Lib.decDigits d)=D:=⟨_,rfl⟩;rw [hD] at hn hlen hval ⊢;have hv0:0<valD D:=by
   rcases Nat.eq_zero_or_pos (valD D) with h | h
   · rw [h,Nat.zero_mul] at hval;omega
   · exact h
 cases D with
 | nil=>exact absurd hv0 (by decide)
 | cons c2 T=>
   refine ⟨c2,T,rfl,?_,by omega,?_,hv0⟩
   · rw [hn,List.cons_append] at hc
     rw [(List.cons.inj hc).1];exact hc48
   · rw [hval] at hok
     have:=(decA_tens n q).1 hok;have e:((Lib.nDigits d:Nat):Int)+q - ((c2 :: T).length:Nat)=q+(n:Int):=by omega
     rw [e];exact this
def topP (n:Nat):Nat:=1 * 10 ^ n * 2 ^ Go.Proofs.YteoalcmhdoopnaaGreatDoor.hp
theorem mid_topP:mid 9218868437227405311<topP 311:=by decide +kernel
def lowP:Nat:=18446744073709551616 * 10 ^ 0 * 2 ^ Go.Proofs.YteoalcmhdoopnaaGreatDoor.hp
def tenP (n:Nat):Nat:=10 ^ n
theorem low_topP:lowP<tenP 346:=by decide +kernel
theorem dec_low {d D:Nat} (hd:d<=D) (c:Nat) {n m:Nat} (h:n<=m):d * 10 ^ n * 2 ^ c<=D * 10 ^ m * 2 ^ c:=
 Nat.mul_le_mul_right _ (Nat.mul_le_mul hd (Nat.pow_le_pow_right (by decide) h))
theorem p_bounds {r d:Nat} {p:Int} (h0:0<r) (hr:r<9218868437227405312) (hd:0<d) (hd2:d<=18446744073709551616) (h:InI r (decA d p) (Ah p)):-345<=p/\p<=310:=by
 constructor
 · rcases Int.lt_or_le p (-345) with h1 | h1
   · exfalso
     obtain ⟨n,hn⟩:∃n:Nat,n=346:=⟨_,rfl⟩;have hlo:lowP<tenP n:=by rw [hn];exact low_topP
     have hb:tenP n<=Ah p:=Nat.pow_le_pow_right (by decide) (by omega);clear hn;have h2:mid (r - 1) * Ah p<=decA d p:=by
       rcases h.low with h | h | h
       · omega
       · exact Nat.le_of_lt h
       · exact Nat.le_of_eq h.1
     have h3:1<=mid (r - 1):=by
       have:=Fw (r:=0) (s:=r - 1) (Nat.zero_le _);exact Nat.le_trans (by decide +kernel) this
     have h4:Ah p<=mid (r - 1) * Ah p:=Nat.le_mul_of_pos_left _ h3;have h5:decA d p<=lowP:=dec_low hd2 Go.Proofs.YteoalcmhdoopnaaGreatDoor.hp (by omega);exact absurd (Nat.le_trans hb (Nat.le_trans h4 (Nat.le_trans h2 h5))) (Nat.not_le.2 hlo)
   · exact h1
 · rcases Int.lt_or_le 310 p with h1 | h1
   · exfalso
     have hb:Ah p=1:=by unfold Ah;rw [show (-p).toNat=0 by omega,Nat.pow_zero]
     have h2:decA d p<=mid r * Ah p:=by
       rcases h.high with h | h
       · exact Nat.le_of_lt h
       · exact Nat.le_of_eq h.1
     rw [hb,Nat.mul_one] at h2;have h3:mid r<=mid 9218868437227405311:=Fw (by omega);obtain ⟨n,hn⟩:∃n:Nat,n=311:=⟨_,rfl⟩;have h6:mid 9218868437227405311<topP n:=by rw [hn];exact mid_topP
     have h311:n<=p.toNat:=by omega
     have h5:topP n<=decA d p:=dec_low hd Go.Proofs.YteoalcmhdoopnaaGreatDoor.hp h311;clear hn;exact absurd (Nat.le_trans h5 (Nat.le_trans h2 h3)) (Nat.not_le.2 h6)
   · exact h1
def eL (n:Nat):List UInt8:=if n<10 then [48,dg8 n] else if n<100 then [dg8 (n / 10),dg8 (n % 10)] else [dg8 (n / 100),dg8 (n / 10 % 10),dg8 (n % 10)]
def eOk (n:Nat):Bool:=!(eL n).isEmpty && (eL n).all isD && (capE (eL n) == n)
theorem exp_tab:allN 1000 eOk=true:=by decide +kernel
theorem expL_is (x:Int) (h:x.natAbs<1000):ExpAt (101 :: expL x) x:=by
 have key:=Bu exp_tab x.natAbs h;unfold eOk at key;rw [show expL x=(if x<0 then 45 else 43) :: eL x.natAbs from rfl];generalize eL x.natAbs=E at key ⊢;rw [Bool.and_eq_true,Bool.and_eq_true,beq_iff_eq,List.all_eq_true] at key;obtain ⟨⟨k0,k2⟩,k3⟩:=key;have k1:E≠[]:=fun e=>by rw [e] at k0;cases k0
 split
 · have:=ExpAt.minus k1 k2
   rw [k3] at this;rw [show x=-((x.natAbs:Nat):Int) by omega];rw [show (-((x.natAbs:Nat):Int))=-((x.natAbs:Nat):Int) from rfl] at this;exact this
 · have:=ExpAt.plus k1 k2
   rw [k3] at this;rw [show x=((x.natAbs:Nat):Int) by omega];exact this
theorem rep_dig (k:Nat):∀c∈List.replicate k (48:UInt8),isD c=true:=fun c hc=>by
 rw [List.eq_of_mem_replicate hc];decide
theorem valD_rep (k:Nat):valD (List.replicate k 48)=0:=Ck fun c hc=>List.eq_of_mem_replicate hc
theorem mant_form {a k:Nat} {c:UInt8} {T:List UInt8} (hc:c≠48) (hl:(c :: T).length<=18) :
   ndF (List.replicate a 48++((c :: T)++List.replicate k 48))=(c :: T).length+k /\
   Ak (List.replicate a 48++((c :: T)++List.replicate k 48))=valD (c :: T) * 10 ^ (min k (19 - (c :: T).length))/\Az (List.replicate a 48++((c :: T)++List.replicate k 48))=false:=by
 have hs:An (List.replicate a 48++((c :: T)++List.replicate k 48))=(c :: T)++List.replicate k 48:=by
   induction a with
   | zero=>
     unfold An;rw [List.replicate_zero,List.nil_append,List.cons_append,List.dropWhile_cons_of_neg (by simpa using hc)]
   | succ a ih=>
     unfold An at ih ⊢;rw [List.replicate_succ,List.cons_append,List.dropWhile_cons_of_pos (by rfl)];exact ih
 unfold ndF Ak Az
 rw [hs]
 refine ⟨by rw [List.length_append,List.length_replicate],?_,?_⟩
 · rw [List.take_append,List.take_of_length_le (by omega),List.take_replicate,Bh,valD_rep,Nat.add_zero,List.length_replicate,Nat.min_comm]
 · rw [List.drop_append,List.drop_of_length_le (by omega),List.nil_append,List.drop_replicate,List.any_eq_false]
   intro x hx;rw [List.eq_of_mem_replicate hx];decide
theorem read_form {r a k m:Nat} {c:UInt8} {T L:List UInt8} {fr:Bool} {x p:Int} (h0:0<r) (hr:r<9218868437227405312) (hc:c≠48) (hdig:∀b∈c :: T,isD b=true) (hl:(c :: T).length<=18)
   (hin:InI r (decA (valD (c :: T)) p) (Ah p)) (hv:0<valD (c :: T)) (hL:L=List.replicate a 48++((c :: T)++List.replicate k 48))
   (hx:(if fr then (((c :: T).length+k:Nat):Int) - m else (((c :: T).length+k:Nat):Int))+x=(c :: T).length+p) :
   0<Ak L/\Ak L<18446744073709551616/\Az L=false/\-345<=expF fr L m x/\expF fr L m x<=310/\InI r (decA (Ak L) (expF fr L m x)) (Ah (expF fr L m x)):=by
 obtain ⟨m1,m2,m3⟩:=mant_form (a:=a) (k:=k) hc hl
 have hLd:∀b∈L,isD b=true:=fun b hb=>by
   rw [hL] at hb;rcases List.mem_append.1 hb with hb | hb
   · exact rep_dig _ b hb
   · rcases List.mem_append.1 hb with hb | hb
     · exact hdig b hb
     · exact rep_dig _ b hb
 have h19:=Fs hLd
 rw [<-hL] at m1 m2 m3
 have hpos:0<Ak L:=by rw [m2];exact Nat.mul_pos hv (Nat.pow_pos (by decide))
 have he:expF fr L m x+((min k (19 - (c :: T).length):Nat):Int)=p:=by
   unfold expF;rw [if_neg (by omega),m1];omega
 have hI:InI r (decA (Ak L) (expF fr L m x)) (Ah (expF fr L m x)):=by
   rw [m2,decA_tens,he];exact hin
 obtain ⟨b1,b2⟩:=p_bounds h0 hr hpos (by omega) hI
 exact ⟨hpos,by omega,m3,b1,b2,hI⟩
structure NumT (s:ByteArray) (neg:Bool) (r:Nat) (d:Bool) (L:List UInt8) (m:Nat) (x:Int):Prop where
 txt:FTxt s neg d L m x
 pos:0<Ak L
 lt:Ak L<18446744073709551616
 whole:Az L=false
 low:-345<=expF d L m x
 high:expF d L m x<=310
 near:InI r (decA (Ak L) (expF d L m x)) (Ah (expF d L m x))
 head:∃c l,s.data.toList=(if neg then [45] else [])++c :: l/\isD c=true
 parts:∃A F X fr y,s.data.toList=At neg++(A++(Bq fr F++X))/\A≠[]/\(∀c∈A,isD c=true)/\(fr=true->F≠[])/\(∀c∈F,isD c=true)/\ExpAt X y
theorem Eg {s:ByteArray} {A F X:List UInt8} {fr neg:Bool} {x p:Int} {r a k:Nat} {c:UInt8} {T:List UInt8} (h0:0<r) (hr:r<9218868437227405312) (hc:c≠48) (hdig:∀b∈c :: T,isD b=true) (hl:(c :: T).length<=18)
   (hin:InI r (decA (valD (c :: T)) p) (Ah p)) (hv:0<valD (c :: T)) (hs:s.data.toList=At neg++(A++(Bq fr F++X))) (hz:s.size<=1000) (hA:A≠[]) (hAd:∀c∈A,isD c=true) (hF:fr=true->F≠[]) (hF2:fr=false->F=[])
   (hFd:∀c∈F,isD c=true) (hX:ExpAt X x) (hL:A++F=List.replicate a 48++((c :: T)++List.replicate k 48))
   (hx:(if fr then (((c :: T).length+k:Nat):Int) - ((if fr then F.length else A.length:Nat):Int) else (((c :: T).length+k:Nat):Int))+x=(c :: T).length+p) :
   NumT s neg r fr (A++F) (if fr then F.length else A.length) x:=by
 obtain ⟨h1,h2⟩:=txt_form hs hz hA hAd hF2 hFd hX
 obtain ⟨m1,m2,m3,m4,m5,m6⟩:=read_form (fr:=fr) (m:=if fr then F.length else A.length) (x:=x) h0 hr hc hdig hl hin hv hL hx
 exact ⟨h1,m1,m2,m3,m4,m5,m6,h2,A,F,X,fr,x,hs,hA,hAd,hF,hFd,hX⟩
theorem text_reads {s:ByteArray} {neg:Bool} {r:Nat} (h0:0<r) (hr:r<9218868437227405312) (hs:s.data.toList=At neg++Dj r):s.size<=25/\∃d L m x,NumT s neg r d L m x:=by
 obtain ⟨c,T,hD,hc,hl,hin,hv⟩:=dig_spec h0 hr;have hdig:=digL_isD r;obtain ⟨b1,b2⟩:=De hr;have hsg:(At neg).length<=1:=by unfold At;split<;>simp
 have hsz:s.size=(At neg).length+(Dj r).length:=by rw [Bm,hs,List.length_append]
 unfold Dj at hs hsz;have hne:digL r≠[]:=by rw [hD];simp
 have hex:expN r=Au r - 1:=by unfold expN;rw [if_neg hne]
 rw [if_neg (by omega),hex] at hs hsz;obtain ⟨dp,hdp⟩:∃dp,Au r=dp:=⟨_,rfl⟩;rw [hdp] at hs hsz hin b1 b2;rw [hD] at hs hsz hin hdig hl hv;clear hD hne hex hdp;have hll:(c :: T).length=T.length+1:=rfl;by_cases he:dp - 1 < -4\/21<=dp - 1
 · rw [if_pos he] at hs hsz
   have hE:effE false (c :: T) dp=[c]++(Bq (decide (1<(c :: T).length)) T++(101 :: expL (dp - 1))):=by
     unfold effE Bq;rw [if_neg (List.cons_ne_nil c T)];by_cases h1:1<(c :: T).length
     · rw [if_pos h1,if_pos (decide_eq_true h1)]
       simp [At]
     · rw [if_neg h1,if_neg (by simpa using h1)]
       simp [At]
   rw [hE] at hs hsz;have hel:=expL_len (dp - 1);have hz:s.size<=25:=by
     rw [hsz];unfold Bq;split<;>simp only [List.length_append,List.length_cons,List.length_nil]<;>omega
   refine ⟨hz,_,_,_,_,Eg (fr:=decide (1<(c :: T).length)) (a:=0) (k:=0) (A:=[c]) (F:=T) (x:=dp - 1) h0 hr hc hdig hl hin hv hs (by omega) (by simp) ?_ ?_ ?_ ?_ (expL_is _ (by omega)) (by simp) ?_⟩
   · intro b hb
     rw [List.mem_singleton] at hb;subst hb;exact hdig _ (List.mem_cons_self ..)
   · intro h1 h2
     have:=of_decide_eq_true h1;rw [h2] at this;simp at this
   · intro h1
     have:=of_decide_eq_false h1;cases T with
     | nil=>rfl
     | cons a l=>simp at this
   · exact fun b hb=>hdig b (List.mem_cons_of_mem _ hb)
   · by_cases h1:1<(c :: T).length
     · rw [decide_eq_true h1,if_pos rfl,if_pos rfl];omega
     · rw [decide_eq_false h1,if_neg (by decide)];omega
 · rw [if_neg he] at hs hsz
   rcases Int.lt_or_le 0 dp with hp | hp
   · rcases Int.lt_or_le dp (c :: T).length with hq | hq
     · have hF:effF false (c :: T) dp=(c :: T).take dp.toNat++(Bq true ((c :: T).drop dp.toNat)++[]):=by
         unfold effF Bq;rw [if_pos hp,if_pos hq,if_pos rfl,show dp.toNat - (c :: T).length=0 by omega,show (-dp).toNat=0 by omega];simp [At]
       rw [hF] at hs hsz;have hz:s.size<=25:=by
         rw [hsz];unfold Bq;rw [if_pos rfl,List.length_append,List.length_append,List.length_cons,List.length_take,List.length_drop,List.length_nil];omega
       refine ⟨hz,_,_,_,_,Eg (fr:=true) (a:=0) (k:=0) (x:=0) h0 hr hc hdig hl hin hv hs (by omega) ?_ (fun b hb=>hdig b (List.mem_of_mem_take hb)) ?_ (fun h=>by cases h) (fun b hb=>hdig b (List.mem_of_mem_drop hb)) .none ?_ ?_⟩
       · intro h
         have:=congrArg List.length h;rw [List.length_take,List.length_nil] at this;omega
       · intro _ h
         have:=congrArg List.length h;rw [List.length_drop,List.length_nil] at this;omega
       · rw [List.take_append_drop];simp
       · rw [if_pos rfl,if_pos rfl,List.length_drop];omega
     · have hF:effF false (c :: T) dp=((c :: T)++List.replicate (dp.toNat - (c :: T).length) 48)++(Bq false []++[]):=by
         unfold effF Bq;rw [if_pos hp,if_neg (by omega),if_neg (by decide),List.take_of_length_le (by omega)];simp [At]
       rw [hF] at hs hsz;have hz:s.size<=25:=by
         rw [hsz];unfold Bq;rw [if_neg (by decide),List.length_append,List.length_append,List.length_append,List.length_replicate,List.length_nil];omega
       refine ⟨hz,_,_,_,_,Eg (fr:=false) (a:=0) (k:=dp.toNat - (c :: T).length) (x:=0) h0 hr hc hdig hl hin hv hs (by omega) (by simp) ?_ (fun h=>by cases h) (fun _=>rfl) (fun b hb=>by cases hb) .none ?_ ?_⟩
       · intro b hb
         rcases List.mem_append.1 hb with hb | hb
         · exact hdig b hb
         · exact rep_dig _ b hb
       · simp
       · rw [if_neg (by decide)];omega
   · have hF:effF false (c :: T) dp=[48]++(Bq true (List.replicate (-dp).toNat 48++(c :: T))++[]):=by
       unfold effF Bq;rw [if_neg (by omega),if_pos (by omega),if_pos rfl,show dp.toNat=0 by omega];simp [At]
     rw [hF] at hs hsz;have hz:s.size<=25:=by
       rw [hsz];unfold Bq;rw [if_pos rfl];simp only [List.length_append,List.length_cons,List.length_replicate,List.length_nil];simp only [List.length_cons] at hll hl;omega
     refine ⟨hz,_,_,_,_,Eg (fr:=true) (a:=(-dp).toNat+1) (k:=0) (x:=0) h0 hr hc hdig hl hin hv hs (by omega) (by simp) ?_ (fun _=>by simp) (fun h=>by cases h) ?_ .none ?_ ?_⟩
     · intro b hb
       rw [List.mem_singleton] at hb;subst hb;decide
     · intro b hb
       rcases List.mem_append.1 hb with hb | hb
       · exact rep_dig _ b hb
       · exact hdig b hb
     · rw [List.replicate_succ];simp
     · rw [if_pos rfl,if_pos rfl,List.length_append,List.length_replicate];omega
theorem bare_zero:Dj 0=[48]:=by decide +kernel
theorem Fu {s:ByteArray} {l:List UInt8} (h:s.data.toList=l):s=⟨l.toArray⟩:=ByteArray.ext (Array.toList_inj.1 h)
theorem word_split (n:Nat) (h:n<18446744073709551616):n=(if decide (9223372036854775808<=n)=true then 9223372036854775808 else 0)+n % 9223372036854775808:=by
 by_cases h1:9223372036854775808<=n
 · rw [decide_eq_true h1,if_pos rfl];omega
 · rw [decide_eq_false h1,if_neg (by decide)];omega
theorem nan_bound {n:Nat} (h:nanF n=false):n % 9223372036854775808<=9218868437227405312:=by
 unfold nanF at h;have:=of_decide_eq_false h;omega
end Go.Proofs.YteoalcmhdoopnaaGreatDoor
