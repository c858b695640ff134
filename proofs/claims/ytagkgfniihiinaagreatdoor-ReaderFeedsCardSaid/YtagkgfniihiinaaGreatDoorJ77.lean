/- ReaderBack: its walk. -/
import Derived.Test.YtagkgfniihiinaaGreatDoorRdA
import Derived.Test.YtagkgfniihiinaaGreatDoorJ81
import Derived.Test.YtagkgfniihiinaaGreatDoorJ70
import Derived.Test.YtagkgfniihiinaaGreatDoorJ43
import Derived.Test.YtagkgfniihiinaaGreatDoorAll03
import Derived.Test.YtagkgfniihiinaaGreatDoorJ86
import Derived.Test.YtagkgfniihiinaaGreatDoorJ78
import Derived.Test.YtagkgfniihiinaaGreatDoorJ22
import Derived.Test.YtagkgfniihiinaaGreatDoorJ84
import Derived.Lib.ItoaNum
import Derived.Lib.ItoaLen
import Derived.Lib.SmallJoins
import Derived.Test.YtagkgfniihiinaaGreatDoorJ50
import Derived.Test.YtagkgfniihiinaaGreatDoorProg
import Derived.Laws.LoneSync
import Derived.Defers
import Derived.Tactics2
import Derived.Lib.OthersKept
import Derived.Deep.WholeRow
import Derived.Deep.LoopGhost
import Derived.Lib.ConvBytes
import Derived.Lib.SlBytesRow
import Derived.Test.YtagkgfniihiinaaGreatDoorJ58
import Derived.ChangeSlices
import Derived.Test.YtagkgfniihiinaaGreatDoorNums
import Derived.ProofKit
import Derived.OpenShut
import Derived.LaidMore
import Derived.LaidSub
import Derived.LaidLaws
import Derived.Lib.LaidTab
import Derived.Stop.LaidErr
import Derived.Lay
import Derived.Test.YtagkgfniihiinaaGreatDoorJ64
import Derived.Shelf.Bytes.SlSmallAll
import Derived.Laws.IdiomStrings
import Derived.Test.YtagkgfniihiinaaGreatDoorJ45
import Derived.Deep.AppendLies
import Derived.Test.YtagkgfniihiinaaGreatDoorJ69
import Derived.Test.YtagkgfniihiinaaGreatDoorJ17
set_option linter.all false
namespace Go.Proofs.YtagkgfniihiinaaGreatDoor
open Go.RowKit
structure InList (w:World) (a:Option Addr) (l:List V):Prop where
 at_:∀j (h:j<l.length),∃(b o:Nat) (ad:Option Addr) (ca:Nat),a=some ⟨b,o,none⟩/\w.rangeAt b (o+j * 6) [.int .i64 l[j].kind,.string l[j].text,.int .i64 l[j].int,.float .f64 l[j].real,.bool l[j].flag,.slice ad l[j].list.length ca]/\RV w.cell? (An l[j].kind l[j].text l[j].int l[j].real l[j].flag ad l[j].list.length ca) l[j]
theorem InList.of {w:World} {a:Option Addr} {n cap:Nat} {l:List V} (h:RV w.cell? (An 5 ⟨#[]⟩ 0 0 false a n cap) (.mk 5 ⟨#[]⟩ 0 0 false l)):n=l.length/\InList w a l:=by
 obtain ⟨a', cap', css,e,hl,hr,hx⟩:=h.out;have e1:a=a' /\ n=l.length/\cap=cap' := by
   have:=congrArg (fun x:List Value=>x[5]?) e;simp [An,V.list] at this;exact this
 obtain ⟨rfl,rfl,rfl⟩:=e1;refine ⟨rfl,⟨fun j hj=>?_⟩⟩;have hj2:j<css.length:=by rw [hl];exact hj
 have h1:=List.getElem?_eq_getElem hj2;obtain ⟨b,o,ha,hc⟩:=hr j _ h1;have h2:=hx j _ l[j] h1 (List.getElem?_eq_getElem hj);obtain ⟨ad,ca,_,e2,_⟩:=h2.out;refine ⟨b,o,ad,ca,ha,fun q u hq=>hc q u ?_,by rw [<-e2];exact h2⟩;rw [e2];exact hq
theorem InList.below {w w' : World} {a:Option Addr} {l:List V} (h:InList w a l) (hb:Below w.heap.size w w'):InList w' a l:=⟨fun j hj=>by
 obtain ⟨b,o,ad,ca,h1,h2,h3⟩:=h.at_ j hj;exact ⟨b,o,ad,ca,h1,fun q u hq=>Aa hb _ _ (h2 q u hq),h3.mono (Aa hb)⟩⟩
end Go.Proofs.YtagkgfniihiinaaGreatDoor
namespace Go.Proofs.YtagkgfniihiinaaGreatDoor
open Go.RowKit Go.Joins
def Byts (w:World) (a:Option Addr) (s:ByteArray):Prop:=s.size=0\/∃b o,a=some ⟨b,o,none⟩/\Lib.Bytes w b o s
theorem Byts.below {w w' : World} {a:Option Addr} {s:ByteArray} (h:Byts w a s) (hb:Below w.heap.size w w'):Byts w' a s:=by
 rcases h with h | ⟨b,o,h1,h2⟩
 · exact .inl h
 · exact .inr ⟨b,o,h1,fun i hi=>Aa hb _ _ (h2 i hi)⟩
theorem open_bytes {H:Type} {enc:TypeId × Value->H} {w:World} {fuel:Nat} {a:Option Addr} {n cap:Nat} {x:DataW H × List MemPlace} (h:DataW.trod enc Tryz.prog w 0 (fun _=>true) true fuel 27 [.slice a n cap]=some x) :
   n<=maxLen/\∃s:ByteArray,s.size=n/\Byts w a s:=by
 rcases Go.Deep.open_slice Tryz.underlying27 h with h0 | ⟨ad,len', cap', m,k,D,Pl,hcs,hb,hl,hm,hmm,hx,hi⟩
 · obtain ⟨h0,_⟩:=h0
   simp at h0;obtain ⟨rfl,rfl,rfl⟩:=h0;exact ⟨Nat.zero_le _,⟨#[]⟩,rfl,.inl rfl⟩
 · simp at hcs
   obtain ⟨rfl,rfl,rfl⟩:=hcs;simp at hmm;subst hmm;refine ⟨Nat.le_trans hl hm,?_⟩;have hC:Tryz.prog.cellsOf 5=1:=by kernel_rfl
   obtain ⟨xs,hxl,hxr⟩:=Ff (R:=fun i (c:UInt8)=>w.cell? (ad.add i)=some (.int .u8 (c.toNat:Int))) n (fun i him=>by
     obtain ⟨cs', hc,ht'⟩:=hi i (by omega);obtain ⟨z,rfl,_,hz⟩:=DataW.trod_int Tryz.underlying5 ht';rw [hC] at hc;obtain ⟨_,hcl,hat⟩:=World.cells?_some hc;have h0:=hat 0 (by omega);have hz2:0<=z/\z<=255:=by
       have h1:(decide (IntKind.u8.min<=z) && decide (z<=IntKind.u8.max))=true:=hz;rw [Bool.and_eq_true,decide_eq_true_eq,decide_eq_true_eq] at h1;exact h1
     refine ⟨UInt8.ofNat z.toNat,?_⟩;have e:((UInt8.ofNat z.toNat).toNat:Int)=z:=by
       rw [UInt8.toNat_ofNat'];omega
     rw [e];simpa [Addr.add] using h0)
   refine ⟨⟨xs.toArray⟩,by rw [<-hxl];exact size_l _,?_⟩;rcases Nat.eq_zero_or_pos n with h0 | h0
   · exact .inl (by rw [size_l];show xs.length=0;omega)
   · obtain ⟨b,o,rfl⟩:=add_plain (hxr 0 (by omega))
     refine .inr ⟨b,o,rfl,fun i hi=>?_⟩;have hil:i<xs.length:=by rw [size_l] at hi;exact hi
     have:=hxr i hil;rw [add_mk] at this;rw [this];rfl
end Go.Proofs.YtagkgfniihiinaaGreatDoor
namespace Go.Proofs.YtagkgfniihiinaaGreatDoor
open Go.ChangeShapes Go.WideShapes Go.ChangeAt Go.RowKit
theorem star_err : "*" ++ "errors.errorString" = "*errors.errorString" := by decide
theorem row_err (u : TypeId) (h : Tryz.prog.typeName? 3 u = some "*errors.errorString") : u = 246 :=
 typeName_ptr_named (nm := "errors.errorString") (by rw [star_err]; kernel_rfl) (by kernel_rfl) (by decide) u (by rw [star_err]; exact h)
theorem nums_of {W:World} {laid:List (String × DataW Unit)} (h0:laidMetH Tryz.prog laid W) (hp:(laid.all fun x=>x.2.handleName?.isNone)=true)
   (e1 : laid.filter (fun x => x.1 == "internal/strconv.uint64pow10") = [("internal/strconv.uint64pow10", Lib.tabData .u64 Lib.pow10Tab)])
   (e2 : laid.filter (fun x => x.1 == "strconv.ErrSyntax") = [("strconv.ErrSyntax", .iface "*errors.errorString" (.ptr (.agg [.lit (.string [105, 110, 118, 97, 108, 105, 100, 32, 115, 121, 110, 116, 97, 120])])))])
   (e3 : laid.filter (fun x => x.1 == "strconv.ErrRange") = [("strconv.ErrRange", .iface "*errors.errorString" (.ptr (.agg [.lit (.string [118, 97, 108, 117, 101, 32, 111, 117, 116, 32, 111, 102, 32, 114, 97, 110, 103, 101])])))]) : Nums W := by
 rw [MakeChecks.laidMetH_plain _ _ _ hp] at h0
 have h1 := h0.filter (fun x => x.1 == "internal/strconv.uint64pow10")
 have h2 := h0.filter (fun x => x.1 == "strconv.ErrSyntax")
 have h3 := h0.filter (fun x => x.1 == "strconv.ErrRange")
 rw [e1] at h1
 rw [e2] at h2
 rw [e3] at h3
 refine ⟨Lib.tabIs_of_head (g:=5) (t:=223) (e:=60) (n:=20) (by kernel_rfl) (by kernel_rfl) Tryz.underlying223 Tryz.underlying60 (by kernel_rfl) (by kernel_rfl) h1,?_,?_⟩
 · obtain ⟨a,s,hv,_⟩:=laid_sentinel (g:=3) (ti:=106) (tp:=246) (te:=248) h2 glob_syn (by kernel_rfl) Tryz.underlying106 row_err Tryz.underlying246 Tryz.underlying248 rfl rfl Tryz.underlying9 (by kernel_rfl) (by kernel_rfl)
   exact ⟨_,_,hv⟩
 · obtain ⟨a,s,hv,_⟩:=laid_sentinel (g:=4) (ti:=106) (tp:=246) (te:=248) h3 glob_rng (by kernel_rfl) Tryz.underlying106 row_err Tryz.underlying246 Tryz.underlying248 rfl rfl Tryz.underlying9 (by kernel_rfl) (by kernel_rfl)
   exact ⟨_,_,hv⟩
end Go.Proofs.YtagkgfniihiinaaGreatDoor
namespace Go.Proofs.YtagkgfniihiinaaGreatDoor
open Go.RowKit Go.Joins
theorem open_bytesC {H:Type} {enc:TypeId × Value->H} {w:World} {fuel:Nat} {a:Option Addr} {n cap:Nat} {x:DataW H × List MemPlace} (h:DataW.trod enc Tryz.prog w 0 (fun _=>true) true fuel 27 [.slice a n cap]=some x) :
   n<=maxLen/\n<=cap/\∃s:ByteArray,s.size=n/\Byts w a s:=by
 have h1:=open_bytes h
 refine ⟨h1.1,?_,h1.2⟩
 rcases Go.Deep.open_slice Tryz.underlying27 h with h0 | ⟨ad,len', cap', m,k,D,Pl,hcs,hb,hl,hm,hmm,hx,hi⟩
 · obtain ⟨h0,_⟩:=h0
   simp at h0;obtain ⟨rfl,rfl,rfl⟩:=h0;exact Nat.le_refl _
 · simp at hcs
   obtain ⟨rfl,rfl,rfl⟩:=hcs;exact hl
theorem Byts.text {w:World} {a:Option Addr} {s:ByteArray} {c:Nat} (h:Byts w a s):(convert 27 9 (.slice a s.size c)).run Tryz.prog w=.ok (.string s) w:=by
 rcases h with h0 | ⟨b,o,rfl,h2⟩
 · have e:s=ByteArray.empty:=ByteArray.ext (Array.eq_empty_of_size_eq_zero h0)
   rw [h0,e];exact run_convert_bytes_zero w 27 5 Tryz.underlying27 Tryz.underlying5 a c _ Tryz.underlying9
 · have h7:=run_convert_bytes_back (P:=Tryz.prog) w 27 9 5 ⟨b,o,none⟩ c s.data.toList Tryz.underlying27 Tryz.underlying5 Tryz.underlying9 (fun q hq=>by
     rw [Array.length_toList] at hq;rw [add_zr,h2 q hq,Array.getElem_toList];rfl)
   rw [Array.length_toList] at h7;exact h7
end Go.Proofs.YtagkgfniihiinaaGreatDoor
namespace Go.Proofs.YtagkgfniihiinaaGreatDoor
open Go.ChangeShapes Go.WideShapes Go.ChangeAt Go.RowKit
theorem floF_of {W:World} {laid:List (String × DataW Unit)} (h0:laidMetH Tryz.prog laid W) (hp:(laid.all fun x=>x.2.handleName?.isNone)=true)
   (e1 : laid.filter (fun x => x.1 == "internal/strconv.uint64pow10") = [("internal/strconv.uint64pow10", Lib.tabData .u64 Lib.pow10Tab)])
   (e2 : laid.filter (fun x => x.1 == "internal/strconv.pow10Tab") = [("internal/strconv.pow10Tab", Go.Pinned.pow10Tab)]) : Flo W := by
 rw [MakeChecks.laidMetH_plain _ _ _ hp] at h0
 have h1 := h0.filter (fun x => x.1 == "internal/strconv.uint64pow10")
 have h2 := h0.filter (fun x => x.1 == "internal/strconv.pow10Tab")
 rw [e1] at h1
 rw [e2] at h2
 exact ⟨pows_of h2,Lib.tabIs_of_head (g:=5) (t:=223) (e:=60) (n:=20) (by kernel_rfl) (by kernel_rfl) Tryz.underlying223 Tryz.underlying60 (by kernel_rfl) (by kernel_rfl) h1⟩
theorem star_errT : "*" ++ "errors.errorString" = "*errors.errorString" := by decide
theorem row_errT (u : TypeId) (h : Tryz.prog.typeName? 3 u = some "*errors.errorString") : u = 246 :=
 typeName_ptr_named (nm := "errors.errorString") (by rw [star_errT]; kernel_rfl) (by kernel_rfl) (by decide) u (by rw [star_errT]; exact h)
theorem glob_rngT : Tryz.prog.globalNamed "strconv.ErrRange" = some 4 := by kernel_rfl
theorem rng_of {W:World} {laid:List (String × DataW Unit)} (h0:laidMetH Tryz.prog laid W) (hp:(laid.all fun x=>x.2.handleName?.isNone)=true)
   (e3 : laid.filter (fun x => x.1 == "strconv.ErrRange") = [("strconv.ErrRange", .iface "*errors.errorString" (.ptr (.agg [.lit (.string [118, 97, 108, 117, 101, 32, 111, 117, 116, 32, 111, 102, 32, 114, 97, 110, 103, 101])])))]) : Rng W := by
 rw [MakeChecks.laidMetH_plain _ _ _ hp] at h0
 have h3 := h0.filter (fun x => x.1 == "strconv.ErrRange")
 rw [e3] at h3
 obtain ⟨a,s,hv,_⟩:=laid_sentinel (g:=4) (ti:=106) (tp:=246) (te:=248) h3 glob_rngT (by kernel_rfl) Tryz.underlying106 row_errT Tryz.underlying246 Tryz.underlying248 rfl rfl Tryz.underlying9 (by kernel_rfl) (by kernel_rfl)
 exact ⟨_,_,(World.var?_cell glob_rngT hv 0).trans rfl⟩
end Go.Proofs.YtagkgfniihiinaaGreatDoor
namespace Go.Proofs.YtagkgfniihiinaaGreatDoor
open Go.RowKit
set_option maxRecDepth 100000 in
set_option maxHeartbeats 6400000 in
theorem scan5_lnone {w:World} {s:ByteArray} {u:Nat} {t:List UInt8} (h0:0<s.size) (hs:s.size<=1000000) (hk:Ac (s[0]'h0)=5\/Ac (s[0]'h0)=12\/Ac (s[0]'h0)=13\/Ac (s[0]'h0)=14) (hl:Aw (s.data.toList.drop 1)=.got (t,u)) (hm:¬(t=[45,49]/\(Ac (s[0]'h0)=4\/Ac (s[0]'h0)=5)))
   (hn:numS t 1000=none) (d m:Int):Calls Tryz.prog 47 #[.string s,.int .i64 d,.int .i64 m] w (StopZ 51 w):=by
 have hl0:=hl
 obtain ⟨c,hc⟩:∃c,s[0]'h0=c:=⟨_,rfl⟩
 rw [hc] at hk
 have hkc:=C1 c
 have h0i:(0:Int)<(s.size:Int):=by omega
 have h1i:(1:Int)<=(s.size:Int):=by omega
 obtain ⟨j1,j3,j4⟩:=Bl h0
 obtain ⟨T,hT⟩:∃T,T=s.extract 1 s.size:=⟨_,rfl⟩
 have hTs:T.size<=1000000:=by rw [hT,ByteArray.size_extract];omega
 have hln:=Dc hTs
 have hTl:T.data.toList=s.data.toList.drop 1:=by rw [hT];exact C9
 have hul:=(A7 hl).1
 rw [List.length_drop,Array.length_toList] at hul
 have hul9:s.data.size=s.size:=rfl
 obtain ⟨U,hU⟩:∃U,U=u+1:=⟨_,rfl⟩
 have hu1:IntKind.i64.wrap ((u:Int)+1)=(U:Int):=by rw [IntWalk.i64_in _ (by omega)];omega
 try rw [<-hU]
 replace hU:=Hd hU
 rw [hTl,hl] at hln
 unfold lineA at hln
 have hT2:=hT.symm
 dsimp only at hln
 replace hln:=Hd hln
 replace hkc:=Hd hkc
 clear hTl hl hTs hT hul hul9
 rw [hc] at hm
 try rw [hc] at hnn
 try rw [hc] at h14
 obtain ⟨k,hkk⟩:∃k,k=Ac c:=⟨_,rfl⟩
 rw [<-hkk] at hk hkc
 try rw [<-hkk] at hm
 try rw [<-hkk] at hp
 try rw [<-hkk] at hH
 try rw [<-hkk] at hnn
 try rw [<-hkk] at h14
 clear hkk
 obtain ⟨tb,htb⟩:∃tb:ByteArray,tb=⟨t.toArray⟩:=⟨_,rfl⟩
 have htl:tb.data.toList=t:=by rw [htb]
 have htz:tb.size<=1000000:=by
   have h1:=(A7 hl0).2.2;rw [<-htl,Array.length_toList] at h1;have h2:tb.data.size=tb.size:=rfl;omega
 rw [<-htb] at hln
 have hny:((tb.toList == [45,49])=false)\/((tb.toList == [45,49])=true/\((k:Int) == 4)=false/\((k:Int) == 5)=false):=by
   cases h9:(tb.toList == [45,49]) with
   | false=>exact .inl rfl
   | true=>
     refine .inr ⟨rfl,?_⟩;have h8:=eq_of_beq h9;rw [ByteArray.toList_eq,htl] at h8;have h7:¬(k=4\/k=5):=fun e=>hm ⟨h8,e⟩;exact ⟨by rw [beq_eq_false_iff_ne];omega,by rw [beq_eq_false_iff_ne];omega⟩
 clear htb
 replace hny:=Hd hny
 replace hm:=Hd hm
 replace htl:=Hd htl
 replace hl0:=Hd hl0
 try replace hH:=Hd hH
 have hnm:=fun W=>Eb (w:=W) (t:=tb) (most:=1000) htz (by decide)
 rw [htl.out] at hnm
 unfold numI at hnm
 rw [hn] at hnm
 dsimp only at hnm
 have hls:=Bd (k:Int)
 have hkl:Ak (k:Int)=true:=by unfold Ak;rw [decide_eq_true_iff];omega
 rw [hkl] at hls
 replace hls:=Hd hls
 replace hnm:=Hd hnm
 have h2:=Two.start w 0 ⟨#[]⟩ 0 0 false
 obtain ⟨W2,hW2⟩:∃W,W=(w.alloc (.cells #[.int .i64 0,.string ⟨#[]⟩,.int .i64 0,.float .f64 0,.bool false,.slice none 0 0] 26)).alloc (.cells #[.int .i64 0,.string ⟨#[]⟩,.int .i64 0,.float .f64 0,.bool false,.slice none 0 0] 26):=⟨_,rfl⟩
 rw [<-hW2] at h2
 replace hW2:=Hd hW2
 replace h2:=Hd h2
 go_enter Tryz.func47,Tryz.ntmps47
 go_upto_region 2 with fail
 rw [<-hW2.out]
 clear hW2
 go_wp2_with fail
 refine (hkc.out _).mono ?_
 rintro e w3 ⟨rfl,hww⟩
 have h3:=h2.out
 rw [<-hww] at h3
 clear h2 hww
 go_wp2_with fail
 refine (hln.out _).mono ?_
 rintro e w3 ⟨rfl,hww⟩
 rw [<-hww] at h3
 clear hww
 replace h3:=Hd h3
 go_upto_region 11 with fail
 go_cut [59] from 51 to 59 (fun s5 wx=>s5=.bool false/\wx=w3)
 case first=>
   rcases hny.out with y1 | ⟨y1,c4,c5⟩
   · go_wp2_with fail
     go_meet
     exact ⟨rfl,rfl⟩
   · go_wp2_with fail
     go_meet
     exact ⟨rfl,rfl⟩
 obtain ⟨rfl,hww⟩:=hcut
 obtain rfl:=hww.symm
 clear hww
 clear hny
 go_upto_region 13 with fail
 go_cut [72] from 64 to 72 (fun s5 wx=>s5=.bool false/\wx=w3)
 case first=>
   have c4:((k:Int) == 4)=false:=by rw [beq_eq_false_iff_ne];omega
   have c10:((k:Int) == 10)=false:=by rw [beq_eq_false_iff_ne];omega
   have c11:((k:Int) == 11)=false:=by rw [beq_eq_false_iff_ne];omega
   go_wp2_with fail
   go_meet
   exact ⟨rfl,rfl⟩
 obtain ⟨rfl,hww⟩:=hcut
 obtain rfl:=hww.symm
 clear hww
 go_wp2_with fail
 refine (hls.out _).mono ?_
 rintro e w4 ⟨rfl,hww⟩
 obtain rfl:=hww.symm
 clear hww hls
 go_wp2_with fail
 refine (hnm.out _).mono ?_
 rintro e w4 ⟨rfl,hb⟩
 have h4:=h3.out.move hb
 clear h3 hb hnm
 obtain ⟨w3,hw3⟩:∃w3,w3=w4:=⟨_,rfl⟩
 rw [<-hw3] at h4 ⊢
 clear hw3
 have h3:=h4
 clear h4
 replace h3:=Hd h3
 replace hk:=Hd hk
 have h3:=h3.out
 have hrR:(w3.setCells w.heap.size 0 [.int .i64 0,.string (⟨#[]⟩:ByteArray),.int .i64 0,.float .f64 0,.bool false,.slice none 0 0]).rangeAt w.heap.size 0 [.int .i64 0,.string (⟨#[]⟩:ByteArray),.int .i64 0,.float .f64 0,.bool false,.slice none 0 0]:=
   World.rangeAt_setCells_same _ _ _ _ (Ae (n:=6) h3.zero h3.blk rfl)
 have htC:=Ae (n:=6) h3.zero h3.blk rfl
 have hfu:=h3.full
 have hbl:Below w.heap.size w (w3.setCells w.heap.size 0 [.int .i64 0,.string (⟨#[]⟩:ByteArray),.int .i64 0,.float .f64 0,.bool false,.slice none 0 0]):=
   h3.below.trans ((Fr.setCells (S:=fun k=>k=w.heap.size) (fun _=>rfl) _ _ _ (Fr.refl _ w3)).below h3.below.size (fun i hi h=>by omega))
 replace hrR:=Hd hrR
 replace htC:=Hd htC
 replace hfu:=Hd hfu
 replace hbl:=Hd hbl
 replace h3:=Hd h3
 go_wp2_with (first
   | (refine wpList_load_mid rfl 26 _ rfl (w.heap.size+1) 0 rfl _ _ hfu.out Tryz.underlying26 rfl Ab ?_)
   | (refine wpList_store_mid rfl 26 _ _ rfl w.heap.size 0 _ rfl rfl htC.out Ab (one6 _ _ _ _ _ _ _ _) ?_))
 refine bodyPost_ret (Al (v:=.agg #[.int .i64 0,.string (⟨#[]⟩:ByteArray),.int .i64 0,.float .f64 0,.bool false,.slice none 0 0]) rfl rfl (run_loadVar_mid (P:=Tryz.prog) _ _ 0 26 _ _ hrR.out Tryz.underlying26 rfl Ab)) rfl ?_
 exact ⟨0,0,rfl,hbl.out⟩
set_option maxRecDepth 100000 in
set_option maxHeartbeats 6400000 in
theorem scan5_lbad {w:World} {s:ByteArray} {u nn:Nat} {t:List UInt8} (h0:0<s.size) (hs:s.size<=1000000) (hk:Ac (s[0]'h0)=5\/Ac (s[0]'h0)=12\/Ac (s[0]'h0)=13\/Ac (s[0]'h0)=14) (hl:Aw (s.data.toList.drop 1)=.got (t,u)) (hm:¬(t=[45,49]/\(Ac (s[0]'h0)=4\/Ac (s[0]'h0)=5)))
   {n many d:Nat} (hn:numS t 1000=some n) (hnn:nn=if Ac (s[0]'h0)=12 then 2 * n else n) (hmn:many<=1000) (hd:d<=8) (h14:1000<many+nn\/8<=d\/(Ac (s[0]'h0)=14/\(nn=0\/0<d))) :
   Calls Tryz.prog 47 #[.string s,.int .i64 (d:Int),.int .i64 (many:Int)] w (StopZ 51 w):=by
 have hn4:=numS_leG hn
 have hn2:nn<=2000:=by rw [hnn];split<;>omega
 have hl0:=hl
 obtain ⟨c,hc⟩:∃c,s[0]'h0=c:=⟨_,rfl⟩
 rw [hc] at hk
 have hkc:=C1 c
 have h0i:(0:Int)<(s.size:Int):=by omega
 have h1i:(1:Int)<=(s.size:Int):=by omega
 obtain ⟨j1,j3,j4⟩:=Bl h0
 obtain ⟨T,hT⟩:∃T,T=s.extract 1 s.size:=⟨_,rfl⟩
 have hTs:T.size<=1000000:=by rw [hT,ByteArray.size_extract];omega
 have hln:=Dc hTs
 have hTl:T.data.toList=s.data.toList.drop 1:=by rw [hT];exact C9
 have hul:=(A7 hl).1
 rw [List.length_drop,Array.length_toList] at hul
 have hul9:s.data.size=s.size:=rfl
 obtain ⟨U,hU⟩:∃U,U=u+1:=⟨_,rfl⟩
 have hu1:IntKind.i64.wrap ((u:Int)+1)=(U:Int):=by rw [IntWalk.i64_in _ (by omega)];omega
 try rw [<-hU]
 replace hU:=Hd hU
 rw [hTl,hl] at hln
 unfold lineA at hln
 have hT2:=hT.symm
 dsimp only at hln
 replace hln:=Hd hln
 replace hkc:=Hd hkc
 clear hTl hl hTs hT hul hul9
 rw [hc] at hm
 try rw [hc] at hnn
 try rw [hc] at h14
 obtain ⟨k,hkk⟩:∃k,k=Ac c:=⟨_,rfl⟩
 rw [<-hkk] at hk hkc
 try rw [<-hkk] at hm
 try rw [<-hkk] at hp
 try rw [<-hkk] at hH
 try rw [<-hkk] at hnn
 try rw [<-hkk] at h14
 clear hkk
 obtain ⟨tb,htb⟩:∃tb:ByteArray,tb=⟨t.toArray⟩:=⟨_,rfl⟩
 have htl:tb.data.toList=t:=by rw [htb]
 have htz:tb.size<=1000000:=by
   have h1:=(A7 hl0).2.2;rw [<-htl,Array.length_toList] at h1;have h2:tb.data.size=tb.size:=rfl;omega
 rw [<-htb] at hln
 have hny:((tb.toList == [45,49])=false)\/((tb.toList == [45,49])=true/\((k:Int) == 4)=false/\((k:Int) == 5)=false):=by
   cases h9:(tb.toList == [45,49]) with
   | false=>exact .inl rfl
   | true=>
     refine .inr ⟨rfl,?_⟩;have h8:=eq_of_beq h9;rw [ByteArray.toList_eq,htl] at h8;have h7:¬(k=4\/k=5):=fun e=>hm ⟨h8,e⟩;exact ⟨by rw [beq_eq_false_iff_ne];omega,by rw [beq_eq_false_iff_ne];omega⟩
 clear htb
 replace hny:=Hd hny
 replace hm:=Hd hm
 replace htl:=Hd htl
 replace hl0:=Hd hl0
 try replace hH:=Hd hH
 have hnm:=fun W=>Eb (w:=W) (t:=tb) (most:=1000) htz (by decide)
 rw [htl.out] at hnm
 unfold numI at hnm
 rw [hn] at hnm
 dsimp only at hnm
 have hls:=Bd (k:Int)
 have hkl:Ak (k:Int)=true:=by unfold Ak;rw [decide_eq_true_iff];omega
 rw [hkl] at hls
 replace hls:=Hd hls
 replace hnm:=Hd hnm
 have h2:=Two.start w 0 ⟨#[]⟩ 0 0 false
 obtain ⟨W2,hW2⟩:∃W,W=(w.alloc (.cells #[.int .i64 0,.string ⟨#[]⟩,.int .i64 0,.float .f64 0,.bool false,.slice none 0 0] 26)).alloc (.cells #[.int .i64 0,.string ⟨#[]⟩,.int .i64 0,.float .f64 0,.bool false,.slice none 0 0] 26):=⟨_,rfl⟩
 rw [<-hW2] at h2
 replace hW2:=Hd hW2
 replace h2:=Hd h2
 go_enter Tryz.func47,Tryz.ntmps47
 go_upto_region 2 with fail
 rw [<-hW2.out]
 clear hW2
 go_wp2_with fail
 refine (hkc.out _).mono ?_
 rintro e w3 ⟨rfl,hww⟩
 have h3:=h2.out
 rw [<-hww] at h3
 clear h2 hww
 go_wp2_with fail
 refine (hln.out _).mono ?_
 rintro e w3 ⟨rfl,hww⟩
 rw [<-hww] at h3
 clear hww
 replace h3:=Hd h3
 go_upto_region 11 with fail
 go_cut [59] from 51 to 59 (fun s5 wx=>s5=.bool false/\wx=w3)
 case first=>
   rcases hny.out with y1 | ⟨y1,c4,c5⟩
   · go_wp2_with fail
     go_meet
     exact ⟨rfl,rfl⟩
   · go_wp2_with fail
     go_meet
     exact ⟨rfl,rfl⟩
 obtain ⟨rfl,hww⟩:=hcut
 obtain rfl:=hww.symm
 clear hww
 clear hny
 go_upto_region 13 with fail
 go_cut [72] from 64 to 72 (fun s5 wx=>s5=.bool false/\wx=w3)
 case first=>
   have c4:((k:Int) == 4)=false:=by rw [beq_eq_false_iff_ne];omega
   have c10:((k:Int) == 10)=false:=by rw [beq_eq_false_iff_ne];omega
   have c11:((k:Int) == 11)=false:=by rw [beq_eq_false_iff_ne];omega
   go_wp2_with fail
   go_meet
   exact ⟨rfl,rfl⟩
 obtain ⟨rfl,hww⟩:=hcut
 obtain rfl:=hww.symm
 clear hww
 go_wp2_with fail
 refine (hls.out _).mono ?_
 rintro e w4 ⟨rfl,hww⟩
 obtain rfl:=hww.symm
 clear hww hls
 go_wp2_with fail
 refine (hnm.out _).mono ?_
 rintro e w4 ⟨rfl,hb⟩
 have h4:=h3.out.move hb
 clear h3 hb hnm
 obtain ⟨w3,hw3⟩:∃w3,w3=w4:=⟨_,rfl⟩
 rw [<-hw3] at h4 ⊢
 clear hw3
 have h3:=h4
 clear h4
 replace h3:=Hd h3
 have hn0:¬(n:Int)<0:=by omega
 replace hnn:=Hd hnn
 obtain ⟨p12,hp12⟩:∃p:Bool,p=decide (k=12):=⟨_,rfl⟩
 replace hp12:=Hd hp12
 go_upto_region 30 with fail
 go_cut [147] from 147 to 147 (fun s5 wx=>s5=.bool p12/\wx=w3)
 case first=>
   rcases hk with rfl | rfl | rfl | rfl
   · obtain rfl:p12=false:=hp12.out
     go_wp2_with fail
     go_meet
     exact ⟨rfl,rfl⟩
   · obtain rfl:p12=true:=hp12.out
     go_wp2_with fail
     go_meet
     exact ⟨rfl,rfl⟩
   · obtain rfl:p12=false:=hp12.out
     go_wp2_with fail
     go_meet
     exact ⟨rfl,rfl⟩
   · obtain rfl:p12=false:=hp12.out
     go_wp2_with fail
     go_meet
     exact ⟨rfl,rfl⟩
 obtain ⟨rfl,hww⟩:=hcut
 obtain rfl:=hww.symm
 clear hww
 go_upto_if 147 with fail
 go_cut [20] from 20 to 149 (fun s5 wx=>s5=.int .i64 (nn:Int)/\wx=w3)
 case first=>
   cases p12 with
   | false=>
     have h1:¬k=12:=of_decide_eq_false hp12.out.symm;have hnn9:=hnn.out;rw [if_neg h1] at hnn9;subst hnn9;go_wp2_with fail
     go_meet
     exact ⟨rfl,rfl⟩
   | true=>
     have h1:k=12:=of_decide_eq_true hp12.out.symm;have hnn9:=hnn.out;rw [if_pos h1] at hnn9;have hw2:IntKind.i64.wrap (2 * (n:Int))=(nn:Int):=by rw [IntWalk.i64_in _ (by omega)];omega
     replace hnn9:=Hd hnn9;go_wp2_with fail
     go_meet
     exact ⟨by first | rfl | (rw [hw2]) | (simp [hw2]),rfl⟩
 obtain ⟨rfl,hww⟩:=hcut
 obtain rfl:=hww.symm
 clear hww
 replace hk:=Hd hk
 obtain ⟨M,hM⟩:∃M,M=many+nn:=⟨_,rfl⟩
 have hw3:IntKind.i64.wrap ((many:Int)+(nn:Int))=(M:Int):=by rw [IntWalk.i64_in _ (by omega)];omega
 replace hM:=Hd hM
 go_upto_region 32 with fail
 go_upto_region 33 with fail
 go_cut [170] from 154 to 170 (fun s5 wx=>s5=.bool true/\wx=w3)
 case first=>
   by_cases q1:1000<M
   · have q1i:(1000:Int)<(M:Int):=by omega
     by_cases q2:8<=d
     · have q2i:(8:Int)<=(d:Int):=by omega
       go_wp2_with fail
       go_meet
       exact ⟨rfl,rfl⟩
     · have q2i:¬(8:Int)<=(d:Int):=by omega
       go_wp2_with fail
       go_meet
       exact ⟨rfl,rfl⟩
   · have q1i:¬(1000:Int)<(M:Int):=by omega
     by_cases q2:8<=d
     · have q2i:(8:Int)<=(d:Int):=by omega
       go_wp2_with fail
       go_meet
       exact ⟨rfl,rfl⟩
     · have q2i:¬(8:Int)<=(d:Int):=by omega
       obtain ⟨h5,h6⟩:k=14/\(nn=0\/0<d):=by have hMM:=hM.out;omega
       subst h5;by_cases q3:nn=0
       · have z1:((nn:Int) == 0)=true:=by rw [q3];rfl
         replace q3:=Hd q3;go_wp2_with fail
         go_meet
         exact ⟨rfl,rfl⟩
       · have z1:((nn:Int) == 0)=false:=by rw [beq_eq_false_iff_ne];omega
         have z2:(0:Int)<(d:Int):=by omega
         have z3:0<d:=by omega
         go_wp2_with fail
         go_meet
         exact ⟨rfl,rfl⟩
 obtain ⟨rfl,hww⟩:=hcut
 obtain rfl:=hww.symm
 clear hww
 have h3:=h3.out
 have hrR:(w3.setCells w.heap.size 0 [.int .i64 0,.string (⟨#[]⟩:ByteArray),.int .i64 0,.float .f64 0,.bool false,.slice none 0 0]).rangeAt w.heap.size 0 [.int .i64 0,.string (⟨#[]⟩:ByteArray),.int .i64 0,.float .f64 0,.bool false,.slice none 0 0]:=
   World.rangeAt_setCells_same _ _ _ _ (Ae (n:=6) h3.zero h3.blk rfl)
 have htC:=Ae (n:=6) h3.zero h3.blk rfl
 have hfu:=h3.full
 have hbl:Below w.heap.size w (w3.setCells w.heap.size 0 [.int .i64 0,.string (⟨#[]⟩:ByteArray),.int .i64 0,.float .f64 0,.bool false,.slice none 0 0]):=
   h3.below.trans ((Fr.setCells (S:=fun k=>k=w.heap.size) (fun _=>rfl) _ _ _ (Fr.refl _ w3)).below h3.below.size (fun i hi h=>by omega))
 replace hrR:=Hd hrR
 replace htC:=Hd htC
 replace hfu:=Hd hfu
 replace hbl:=Hd hbl
 replace h3:=Hd h3
 go_wp2_with (first
   | (refine wpList_load_mid rfl 26 _ rfl (w.heap.size+1) 0 rfl _ _ hfu.out Tryz.underlying26 rfl Ab ?_)
   | (refine wpList_store_mid rfl 26 _ _ rfl w.heap.size 0 _ rfl rfl htC.out Ab (one6 _ _ _ _ _ _ _ _) ?_))
 refine bodyPost_ret (Al (v:=.agg #[.int .i64 0,.string (⟨#[]⟩:ByteArray),.int .i64 0,.float .f64 0,.bool false,.slice none 0 0]) rfl rfl (run_loadVar_mid (P:=Tryz.prog) _ _ 0 26 _ _ hrR.out Tryz.underlying26 rfl Ab)) rfl ?_
 exact ⟨0,0,rfl,hbl.out⟩
theorem cons_of {s:ByteArray} (h0:0<s.size):s.data.toList=(s[0]'h0) :: s.data.toList.drop 1:=by
 obtain ⟨hj,e⟩:=get_list h0;rw [<-e,<-List.drop_eq_getElem_cons hj,List.drop_zero]
theorem headQ_scQ {rp:Rp} (hrp:RpAll rp) {s:ByteArray} {H:Head} {many:Nat} {w:World} {e:Ending} {w' : World} (hh:H=A1 rp s.data.toList) (h:HeadQ H (many:Int) w e w') :
   ScQ (match H with | .stop q=>.stop q | .leaf v u=>.got (v,u,many) | .list _ _ _=>.stop 51) w e w' := by
 cases H with
 | stop q=>exact h
 | leaf v u=>
   obtain ⟨h1,h2⟩:=h;have hg:=F7 (rp:=rp) (fun t r h=>hrp.lt t r h) hh.symm;obtain ⟨k,t,i,r,f,l⟩:=v;have hl:l=[]:=hg.list;subst hl;exact ⟨none,0,h1,RV.leaf _ _ _ _ _ _ _ _,h2⟩
 | list _ _ _=>exact h.elim
theorem p02_any {rp:Rp} (hrp:RpAll rp) {t:List UInt8} {w:World} (hY:Lay w):Calls Tryz.prog 92 #[.string ⟨t.toArray⟩] w fun e w' => e=ParE (rp t)/\Below w.heap.size w w' := ref_all (hrp.is t) hY
theorem scan5_step {rp:Rp} (hrp:RpAll rp) {s:ByteArray} {many d:Nat} {w:World} {X:Nat->Nat->Nat->Out (V × Nat × Nat)} (hs:s.size<=1000000) (hY:Lay w)
   (hX:∀(h0:0<s.size) (t:List UInt8) (u n:Nat),(Ac (s[0]'h0)=5\/Ac (s[0]'h0)=12\/Ac (s[0]'h0)=13\/Ac (s[0]'h0)=14)->Aw (s.data.toList.drop 1)=.got (t,u)->¬(t=[45,49]/\(Ac (s[0]'h0)=4\/Ac (s[0]'h0)=5))->numS t 1000=some n ->
     Calls Tryz.prog 47 #[.string s,.int .i64 (d:Int),.int .i64 (many:Int)] w (ScQ (X (Ac (s[0]'h0)) (if Ac (s[0]'h0)=12 then 2 * n else n) (1+u)) w)) :
   Calls Tryz.prog 47 #[.string s,.int .i64 (d:Int),.int .i64 (many:Int)] w (ScQ (match A1 rp s.data.toList with | .stop q=>.stop q | .leaf v u=>.got (v,u,many) | .list kd n u=>X kd n u) w):=by
 have fin:∀H,H=A1 rp s.data.toList->(∀kd n u,H≠.list kd n u)->Calls Tryz.prog 47 #[.string s,.int .i64 (d:Int),.int .i64 (many:Int)] w (HeadQ H (many:Int) w) ->
     Calls Tryz.prog 47 #[.string s,.int .i64 (d:Int),.int .i64 (many:Int)] w (ScQ (match A1 rp s.data.toList with | .stop q=>.stop q | .leaf v u=>.got (v,u,many) | .list kd n u=>X kd n u) w):=fun H hH hno h=>by
   refine h.mono fun e w' he=>?_
   have:=headQ_scQ hrp hH he
   rw [<-hH]
   cases H with
   | stop q=>exact this
   | leaf v u=>exact this
   | list kd n u=>exact absurd rfl (hno kd n u)
 rcases Nat.eq_zero_or_pos s.size with hz | h0
 · have hse:s=⟨#[]⟩:=ByteArray.ext (Array.eq_empty_of_size_eq_zero hz)
   subst hse;exact fin (.stop 0) rfl (fun _ _ _ h=>by cases h) (scan5_nil _ _)
 have hcl:=cons_of h0
 obtain ⟨c,hc⟩:∃c,c=s[0]'h0:=⟨_,rfl⟩
 obtain ⟨L,hL⟩:∃L,L=s.data.toList.drop 1:=⟨_,rfl⟩
 have hcl2:=hcl
 rw [<-hc,<-hL] at hcl2
 have hhd:∀H,A1 rp (c :: L)=H->H=A1 rp s.data.toList:=fun H h=>by rw [hcl2];exact h.symm
 by_cases hk0:Ac c=0
 · refine fin (.stop 51) (hhd _ ?_) (fun _ _ _ h=>by cases h) (scan5_kind h0 (by rw [<-hc];exact hk0) _ _)
   unfold A1;dsimp only;rw [if_pos hk0]
 cases hl:Aw L with
 | stop e=>
   refine fin (.stop e) (hhd _ ?_) (fun _ _ _ h=>by cases h) (scan5_line h0 hs (by rw [<-hc];exact hk0) (by rw [<-hL];exact hl) _ _);unfold A1;dsimp only;rw [if_neg hk0,hl]
 | got p=>
   obtain ⟨t,u⟩:=p;have hl2:Aw (s.data.toList.drop 1)=.got (t,u):=by rw [<-hL];exact hl
   by_cases hm:t=[45,49]/\(Ac c=4\/Ac c=5)
   · obtain ⟨ht,hk⟩:=hm
     subst ht;have:=scan5_null (w:=w) h0 hs (by rw [<-hc];exact hk) hl2 (d:Int) (many:Int);refine fin (.leaf (Ao 6 ⟨#[]⟩ 0 0 false) (u+1)) (hhd _ ?_) (fun _ _ _ h=>by cases h) this;unfold A1;dsimp only;rw [if_neg hk0,hl];dsimp only;rw [if_pos ⟨rfl,hk⟩,Nat.add_comm]
   have hm2:¬(t=[45,49]/\(Ac (s[0]'h0)=4\/Ac (s[0]'h0)=5)):=by rw [<-hc];exact hm
   by_cases hk:Ac c=4\/Ac c=10\/Ac c=11
   · obtain ⟨H,hH⟩:∃H,H=A1 rp (c :: L):=⟨_,rfl⟩
     have hH2:=hH;unfold A1 at hH;dsimp only at hH;rw [if_neg hk0,hl] at hH;dsimp only at hH;rw [if_neg hm,if_pos hk] at hH;have:=scan5_text (w:=w) h0 hs (by rw [<-hc];exact hk) hl2 hm2 (H:=H) (by rw [<-hL,<-hc];exact hH) (d:Int) (many:Int);refine fin H (hhd _ hH2.symm) (fun kd n u e=>?_) this;rw [e] at hH;split at hH
     · cases hH
     · split at hH
       · cases hH
       · split at hH<;>cases hH
   by_cases hk2:Ac c=5\/Ac c=12\/Ac c=13\/Ac c=14
   · have hk29:Ac (s[0]'h0)=5\/Ac (s[0]'h0)=12\/Ac (s[0]'h0)=13\/Ac (s[0]'h0)=14:=by rw [<-hc];exact hk2
     cases hn:numS t 1000 with
     | none=>
       refine fin (.stop 51) (hhd _ ?_) (fun _ _ _ h=>by cases h) (scan5_lnone h0 hs hk29 hl2 hm2 hn _ _);unfold A1;dsimp only;rw [if_neg hk0,hl];dsimp only;rw [if_neg hm,if_neg hk];by_cases hk3:Ac c=5\/Ac c=13\/Ac c=14
       · rw [if_pos hk3,hn]
       · rw [if_neg hk3,if_pos (by omega),hn]
     | some n=>
       have hh:A1 rp (c :: L)=.list (Ac c) (if Ac c=12 then 2 * n else n) (1+u):=by
         unfold A1;dsimp only;rw [if_neg hk0,hl];dsimp only;rw [if_neg hm,if_neg hk];by_cases hk3:Ac c=5\/Ac c=13\/Ac c=14
         · rw [if_pos hk3,hn,if_neg (by omega)]
         · rw [if_neg hk3,if_pos (by omega),hn,if_pos (by omega)]
           dsimp only;rw [show Ac c=12 by omega]
       have:=hX h0 t u n hk29 hl2 hm2 hn;rw [hcl2,hh];rw [<-hc] at this;exact this
   · have hkl:=kindR_le c
     obtain ⟨H,hH⟩:∃H,H=A1 rp (c :: L):=⟨_,rfl⟩;have hH2:=hH;unfold A1 at hH;dsimp only at hH;rw [if_neg hk0,hl] at hH;dsimp only at hH;rw [if_neg hm,if_neg hk,if_neg (by omega),if_neg (by omega)] at hH;have:=scan5_single (w:=w) (o:=rp t) h0 hs (by rw [<-hc];omega) hl2 (fun _ W hW=>p02_any hrp (hY.below hW)) (H:=H) (by rw [<-hc];exact hH) (d:Int) (many:Int);refine fin H (hhd _ hH2.symm) (fun kd n u e=>?_) this;rw [e] at hH;split at hH
     · cases hH
     · split at hH<;>cases hH
theorem scan5_any {rp:Rp} (hrp:RpAll rp):∀(lv:Nat),lv<=8->∀(s:ByteArray) (many:Nat) (w:World),s.size<=1000000->many<=1000->Lay w ->
   Calls Tryz.prog 47 #[.string s,.int .i64 ((8 - lv:Nat):Int),.int .i64 (many:Int)] w (ScQ (At rp lv many s.data.toList) w):=by
 intro lv
 induction lv with
 | zero=>
   intro _ s many w hs hm hY;have:=scan5_step hrp (s:=s) (many:=many) (d:=8) (w:=w) (X:=fun _ _ _=>.stop 51) hs hY (fun h0 t u n hk hl hm2 hn=>scan5_lbad h0 hs hk hl hm2 hn rfl hm (Nat.le_refl _) (.inr (.inl (Nat.le_refl _))));unfold At;exact this
 | succ lv ih=>
   intro hlv s many w hs hm hY
   have:=scan5_step hrp (s:=s) (many:=many) (d:=8 - (lv+1)) (w:=w) (X:=fun kd n u=>if 1000<many+n\/(kd=14/\(n=0\/lv<7)) then .stop 51 else match Ba (At rp lv) n (many+n) (s.data.toList.drop u) with
       | .stop e=>.stop e
       | .got (l,u2,m2)=>.got (.mk kd ⟨#[]⟩ 0 0 false l,u+u2,m2)) hs hY (fun h0 t u n hk hl hm2 hn=>by
     obtain ⟨nn,hnn⟩:∃nn,nn=if Ac (s[0]'h0)=12 then 2 * n else n:=⟨_,rfl⟩
     rw [<-hnn]
     by_cases hb:1000<many+nn\/(Ac (s[0]'h0)=14/\(nn=0\/lv<7))
     · rw [if_pos hb]
       exact scan5_lbad h0 hs hk hl hm2 hn hnn hm (by omega) (by omega)
     · rw [if_neg hb]
       refine R2.scan5_list (rp:=rp) h0 hs hk hl hm2 hn hnn (by omega) (by omega) (by omega) (f:=At rp lv) (fun W s' m' hW hs' hm' => ?_) (fun m L v u m' h=>?_) ?_
       · have:=ih (by omega) s' m' W hs' hm' (hY.below hW)
         rw [show ((8 - (lv+1):Nat):Int)+1=((8 - lv:Nat):Int) by omega];exact this
       · have hg:=Dr (rp:=rp) (fun t r h=>hrp.lt t r h) lv (by omega) m L v u m' h
         exact ⟨hg.len,hg.most⟩
       · rw [List.drop_drop]
         cases Ba (At rp lv) nn (many+nn) (s.data.toList.drop (1+u)) with
         | stop e=>rfl
         | got p=>rfl)
   unfold At;exact this
theorem Fz {fn:Func} {p u u2:Tmp} {ty:TypeId} {tmps:Array Value} {P:Program} {w:World} {ad:Addr} {v:Value} (h:fn.results=#[.cell p ty,.tmp u,.tmp u2]) (hp:tmps.getD p undef=.pointer (some ad)) (hl:(loadVar ty ad).run P w=.ok v w) :
   (results fn tmps).run P w=.ok (.tuple #[v,tmps.getD u undef,tmps.getD u2 undef]) w:=by
 simp only [results,h]
 simp [Sem.run_bind,Result.andThen,asAddr,hl,show tmps[p]?.getD undef=.pointer (some ad) by simpa using hp]
set_option maxRecDepth 100000 in
set_option maxHeartbeats 3200000 in
theorem parse5_any {rp:Rp} (hrp:RpAll rp) {s:ByteArray} {w:World} (hs:s.size<=1000000) (hY:Lay w):Calls Tryz.prog 29 #[.string s] w (Ed (At rp 8 1 s.data.toList) w):=by
 obtain ⟨W3,hW3⟩:∃W,W=w.alloc (.cells #[.int .i64 0,.string ⟨#[]⟩,.int .i64 0,.float .f64 0,.bool false,.slice none 0 0] 26):=⟨_,rfl⟩;have hb3:Below w.heap.size w W3:=by rw [hW3];exact (Below.refl _ _).alloc (Nat.le_refl _) _
 have hr3:W3.rangeAt w.heap.size 0 [.int .i64 0,.string ⟨#[]⟩,.int .i64 0,.float .f64 0,.bool false,.slice none 0 0]:=by
   rw [hW3];intro j y hj;rw [Nat.zero_add,World.cell?_alloc_new];simpa using hj
 have hk3:Blk W3 w.heap.size:=by rw [hW3];exact Blk.new _ _ _
 have hsc:=scan5_any hrp 8 (Nat.le_refl _) s 1 W3 hs (by decide) (hY.below hb3);replace hb3:=Hd hb3;replace hr3:=Hd hr3;replace hk3:=Hd hk3;replace hW3:=Hd hW3;cases ho:At rp 8 1 s.data.toList with
 | stop q=>
   rw [ho] at hsc;have hq:=(Dx (rp:=rp) (fun t r h=>hrp.lt t r h) 8 (Nat.le_refl _) 1 s.data.toList []).2.2 q ho;replace hsc:Calls Tryz.prog 47 #[.string s,.int .i64 0,.int .i64 1] W3 (StopZ q W3):=hsc;clear ho;replace hsc:=Hd hsc;rcases hq with rfl | rfl
   all_goals
     go_enter Tryz.func29,Tryz.ntmps29
     go_upto_region 1 with fail
     rw [<-hW3.out]
     go_wp2_with fail
     refine hsc.out.mono ?_
     rintro e w4 ⟨X,Y,rfl,hb4⟩
     clear hsc
     have hth:=A2 w4 26
     have hnv:=Bp w4 26 [.int .i64 0,.string (⟨#[]⟩:ByteArray),.int .i64 0,.float .f64 0,.bool false,.slice none 0 0] rfl
     replace hth:=Hd hth
     replace hnv:=Hd hnv
     have tok1:True:=trivial
     go_upto_region 2 with (have _t:=tok1;refine wpList_store_mid rfl 26 _ _ rfl w4.heap.size 0 _ rfl rfl hth.out Ab (one6 _ _ _ _ _ _ _ _) ?_;clear tok1 _t)
     generalize (w4.alloc (.cells #[Value.int .i64 0,.string ⟨#[]⟩,.int .i64 0,.float .f64 0,.bool false,.slice none 0 0] 26)).setCells w4.heap.size 0 [Value.int .i64 0,.string (⟨#[]⟩:ByteArray),.int .i64 0,.float .f64 0,.bool false,.slice none 0 0]=W6 at hnv ⊢
     obtain ⟨hb6,hr6,_⟩:=hnv.out
     obtain ⟨G,hG⟩:∃G,G=w4.heap.size:=⟨_,rfl⟩
     rw [<-hG] at hr6 ⊢
     replace hG:=Hd hG
     clear hnv hth
     have hb36:=hb4.trans (hb6.mono hb4.size)
     have htC:=Ae (n:=6) (D6 hb36 hr3.out) (hk3.out.of_block (hb36.block _ hk3.out.lt)) rfl
     have hfin:Fr (fun k=>k=w.heap.size) W6 (W6.setCells w.heap.size 0 [.int .i64 0,.string (⟨#[]⟩:ByteArray),.int .i64 0,.float .f64 0,.bool false,.slice none 0 0]):=Fr.setCells (S:=fun k=>k=w.heap.size) (fun _=>rfl) _ _ _ (Fr.refl _ W6)
     have hbw:=hb3.out.trans (hb36.mono hb3.out.size)
     have hbe:=hbw.trans (hfin.below hbw.size (fun i hi e=>by omega))
     have hrR:(W6.setCells w.heap.size 0 [.int .i64 0,.string (⟨#[]⟩:ByteArray),.int .i64 0,.float .f64 0,.bool false,.slice none 0 0]).rangeAt w.heap.size 0 [.int .i64 0,.string (⟨#[]⟩:ByteArray),.int .i64 0,.float .f64 0,.bool false,.slice none 0 0]:=
       World.rangeAt_setCells_same _ _ _ _ htC
     have hb46:=hb6
     replace hrR:=Hd hrR
     replace htC:=Hd htC
     replace hr6:=Hd hr6
     replace hfin:=Hd hfin
     replace hbe:=Hd hbe
     replace hbw:=Hd hbw
     replace hb46:=Hd hb46
     clear hb6 hb36
     go_wp2_with (first
       | (refine wpList_load_mid rfl 26 _ rfl G 0 rfl _ _ hr6.out Tryz.underlying26 rfl Ab ?_)
       | (refine wpList_store_mid rfl 26 _ _ rfl w.heap.size 0 _ rfl rfl htC.out Ab (one6 _ _ _ _ _ _ _ _) ?_))
     refine bodyPost_ret (Fz (v:=.agg #[.int .i64 0,.string (⟨#[]⟩:ByteArray),.int .i64 0,.float .f64 0,.bool false,.slice none 0 0]) rfl rfl (run_loadVar_mid (P:=Tryz.prog) _ _ 0 26 _ _ hrR.out Tryz.underlying26 rfl Ab)) rfl ?_
     exact ⟨rfl,hbe.out⟩
 | got r=>
   obtain ⟨v,u,m⟩:=r;rw [ho] at hsc
   replace hsc:Calls Tryz.prog 47 #[.string s,.int .i64 0,.int .i64 1] W3 (fun e w' => ∃(a:Option Addr) (ca:Nat),e=.returned (.tuple #[.agg #[.int .i64 v.kind,.string v.text,.int .i64 v.int,.float .f64 v.real,.bool v.flag,.slice a v.list.length ca],.int .i64 (u:Int),.int .i64 (m:Int),.int .i64 0]) /\
     RV (A5 W3.heap.size w') (An v.kind v.text v.int v.real v.flag a v.list.length ca) v/\Below W3.heap.size W3 w'):=hsc
   clear ho;have hs3:w.heap.size+1=W3.heap.size:=by rw [hW3.out];simp
   replace hsc:=Hd hsc;replace hs3:=Hd hs3
   go_enter Tryz.func29,Tryz.ntmps29
   go_upto_region 1 with fail
   rw [<-hW3.out];go_wp2_with fail
   refine hsc.out.mono ?_;rintro e w4 ⟨ax,cx,rfl,hrv,hb4⟩;clear hsc;replace hrv:=Hd hrv;have hth:=A2 w4 26;have hnv:=Bp w4 26 [.int .i64 v.kind,.string v.text,.int .i64 v.int,.float .f64 v.real,.bool v.flag,.slice ax v.list.length cx] rfl;replace hth:=Hd hth;replace hnv:=Hd hnv;have tok1:True:=trivial;go_upto_region 2 with (have _t:=tok1;refine wpList_store_mid rfl 26 _ _ rfl w4.heap.size 0 _ rfl rfl hth.out Ab (one6 _ _ _ _ _ _ _ _) ?_;clear tok1 _t)
   generalize (w4.alloc (.cells #[Value.int .i64 0,.string ⟨#[]⟩,.int .i64 0,.float .f64 0,.bool false,.slice none 0 0] 26)).setCells w4.heap.size 0 [Value.int .i64 v.kind,.string v.text,.int .i64 v.int,.float .f64 v.real,.bool v.flag,.slice ax v.list.length cx]=W6 at hnv ⊢;obtain ⟨hb6,hr6,_⟩:=hnv.out;obtain ⟨G,hG⟩:∃G,G=w4.heap.size:=⟨_,rfl⟩;rw [<-hG] at hr6 ⊢;replace hG:=Hd hG;clear hnv hth;have hb36:=hb4.trans (hb6.mono hb4.size);have htC:=Ae (n:=6) (D6 hb36 hr3.out) (hk3.out.of_block (hb36.block _ hk3.out.lt)) rfl;have hfin:Fr (fun k=>k=w.heap.size) W6 (W6.setCells w.heap.size 0 [.int .i64 v.kind,.string v.text,.int .i64 v.int,.float .f64 v.real,.bool v.flag,.slice ax v.list.length cx]):=Fr.setCells (S:=fun k=>k=w.heap.size) (fun _=>rfl) _ _ _ (Fr.refl _ W6);have hbw:=hb3.out.trans (hb36.mono hb3.out.size);have hbe:=hbw.trans (hfin.below hbw.size (fun i hi e=>by omega))
   have hrR:(W6.setCells w.heap.size 0 [.int .i64 v.kind,.string v.text,.int .i64 v.int,.float .f64 v.real,.bool v.flag,.slice ax v.list.length cx]).rangeAt w.heap.size 0 [.int .i64 v.kind,.string v.text,.int .i64 v.int,.float .f64 v.real,.bool v.flag,.slice ax v.list.length cx]:=
     World.rangeAt_setCells_same _ _ _ _ htC
   have hb46:=hb6;replace hrR:=Hd hrR;replace htC:=Hd htC;replace hr6:=Hd hr6;replace hfin:=Hd hfin;replace hbe:=Hd hbe;replace hbw:=Hd hbw;replace hb46:=Hd hb46;clear hb6 hb36
   go_wp2_with (first
     | (refine wpList_load_mid rfl 26 _ rfl G 0 rfl _ _ hr6.out Tryz.underlying26 rfl Ab ?_)
     | (refine wpList_store_mid rfl 26 _ _ rfl w.heap.size 0 _ rfl rfl htC.out Ab (one6 _ _ _ _ _ _ _ _) ?_))
   refine bodyPost_ret (Fz (v:=.agg #[.int .i64 v.kind,.string v.text,.int .i64 v.int,.float .f64 v.real,.bool v.flag,.slice ax v.list.length cx]) rfl rfl (run_loadVar_mid (P:=Tryz.prog) _ _ 0 26 _ _ hrR.out Tryz.underlying26 rfl Ab)) rfl ?_;exact ⟨ax,cx,rfl,(hrv.out.mono (D2 hb46.out)).mono (E7 hfin.out (by have:=hs3.out;omega)),hbe.out⟩
structure VRow (B:Nat) (wr:World) (lv:Value) (css:List (List Value)) (lj:List V):Prop where
 own:wr.ownsRow B 26 6 lv lj.length css.flatten
 vals:RVs (nf B lv.ownBlock wr) css lj
 le:B<=wr.heap.size
theorem VRow.below {B:Nat} {wr w' : World} {lv:Value} {css:List (List Value)} {lj:List V} (h:VRow B wr lv css lj) (hb:Below wr.heap.size wr w'):VRow B w' lv css lj:=
 ⟨Et h.own (Fr.of_below hb) (fun k hk hle=>by have:=(Au h.own k hk).2;omega),h.vals.mono (nf_below hb),Nat.le_trans h.le hb.size⟩
theorem VRow.start (B:Nat) (w:World) (h:B<=w.heap.size):VRow B (w.alloc (.cells #[] 26)) (.slice (some ⟨w.heap.size,0,none⟩) 0 0) [] []:=
 ⟨World.ownsRow_lit w #[] 0 h (by decide) rfl,RVs.nil _,by simp;omega⟩
theorem VRow.snoc {B:Nat} {w4 w9:World} {ae a9:Option Addr} {ce c9:Nat} {css:List (List Value)} {lj:List V} (h:VRow B w4 (.slice ae lj.length ce) css lj) {x:V} {ax:Option Addr} {cx:Nat} (hx:RV (nf B (Value.slice ae lj.length ce).ownBlock w4) (An x.kind x.text x.int x.real x.flag ax x.list.length cx) x)
   (hown:w9.ownsRow B 26 6 (.slice a9 (lj.length+1) c9) (lj.length+1) (css.flatten++#[Value.int .i64 x.kind,.string x.text,.int .i64 x.int,.float .f64 x.real,.bool x.flag,.slice ax x.list.length cx].toList)) (hf:Fr (fun k=>(Value.slice ae lj.length ce).ownBlock=some k) w4 w9) (hn:∀k,(Value.slice a9 (lj.length+1) c9).ownBlock=some k->(Value.slice ae lj.length ce).ownBlock=some k\/w4.heap.size<=k) :
   VRow B w9 (.slice a9 (lj.length+1) c9) (css++[An x.kind x.text x.int x.real x.flag ax x.list.length cx]) (lj++[x]):=by
 refine ⟨?_,(h.vals.snoc hx).mono (nf_append hf hn),Nat.le_trans h.le hf.size⟩
 rw [List.length_append,List.flatten_append]
 simpa [An] using hown
theorem VRow.rv {B:Nat} {wr:World} {a:Option Addr} {c:Nat} {css:List (List Value)} {lj:List V} (h:VRow B wr (.slice a lj.length c) css lj):RV (A5 B wr) (An 5 ⟨#[]⟩ 0 0 false a lj.length c) (.mk 5 ⟨#[]⟩ 0 0 false lj):=
 RV.of_row (v:=.mk 5 ⟨#[]⟩ 0 0 false lj) rfl h.own (h.vals.mono nf_newer)
def AllQ (rp:Rp) (s:ByteArray) (w:World) (e:Ending) (w' : World):Prop:=∃(l:List V) (R:ByteArray) (q:Nat) (a:Option Addr) (c:Nat),AllR rp s.data.toList l R.data.toList q/\e=.returned (.tuple #[.slice a l.length c,.string R,.int .i64 (q:Int)]) /\
 RV (A5 w.heap.size w') (An 5 ⟨#[]⟩ 0 0 false a l.length c) (.mk 5 ⟨#[]⟩ 0 0 false l)/\Below w.heap.size w w' /\ l.length+R.size<=s.size/\∀x∈l,x.count<=1000
def textOf:Value->ByteArray
 | .string s=>s
 | _=>⟨#[]⟩
set_option maxRecDepth 100000 in
set_option maxHeartbeats 6400000 in
theorem all5_any {rp:Rp} (hrp:RpAll rp) {s:ByteArray} {w:World} (hs:s.size<=1000000) (hY:Lay w):Calls Tryz.prog 30 #[.string s] w (AllQ rp s w):=by
 obtain ⟨w2,hw2⟩:∃W,W=w.alloc (.cells #[] 26):=⟨_,rfl⟩;have hb2:Below w.heap.size w w2:=by rw [hw2];exact (Below.refl _ _).alloc (Nat.le_refl _) _
 have hr2:=VRow.start w.heap.size w (Nat.le_refl _);rw [<-hw2] at hr2;replace hw2:=Hd hw2;replace hb2:=Hd hb2;replace hr2:=Hd hr2;replace hY:=Hd hY;replace hrp:=Hd hrp
 go_enter Tryz.func30,Tryz.ntmps30
 go_upto_region 1 with fail
 go_wp2_with fail
 rw [<-hw2.out];go_loopw [0,5] (fun sv lv wr=>∃(cur:ByteArray) (l:List V) (css:List (List Value)),sv=.string cur/\VRow w.heap.size wr lv css l/\Below w.heap.size w wr/\(∀l' R e,AllR rp cur.data.toList l' R e->AllR rp s.data.toList (l++l') R e)/\l.length+cur.size<=s.size/\∀x∈l,x.count<=1000) (fun sv _ _=>(textOf sv).size)
 case atStart=>exact ⟨s,[],[],rfl,hr2.out,hb2.out,fun _ _ _ h=>h,by simp,by simp⟩
 case round=>
   obtain ⟨cur,l,css,rfl,hrow,hbw,hcont,hlen,hcnt⟩:=hrel;obtain ⟨ae,ce,rfl⟩:=(Reads.of_owns hrow.own).shape;have hps:=parse5_any hrp.out (s:=cur) (w:=wr) (by omega) (hY.out.below hbw);cases ho:At rp 8 1 cur.data.toList with
   | stop q=>
     have hq:=(Dx (rp:=rp) (fun t r h=>hrp.out.lt t r h) 8 (Nat.le_refl _) 1 cur.data.toList []).2.2 q ho;rw [ho] at hps;replace hps:Calls Tryz.prog 29 #[.string cur] wr (fun e w' => e=.returned (.tuple #[.agg #[.int .i64 0,.string ⟨#[]⟩,.int .i64 0,.float .f64 0,.bool false,.slice none 0 0],.int .i64 0,.int .i64 (q:Int)])/\Below wr.heap.size wr w'):=hps;rcases hq with rfl | rfl
     · have hfin:=hcont _ _ _ (.wait ho)
       rw [List.append_nil] at hfin;clear ho hcont;replace hps:=Hd hps;replace hrow:=Hd hrow;replace hfin:=Hd hfin;go_wp2_with fail
       refine hps.out.mono ?_;rintro e w4 ⟨rfl,hb4⟩;clear hps;have hth:=A2 w4 26;have hnv:=Bp w4 26 [.int .i64 0,.string (⟨#[]⟩:ByteArray),.int .i64 0,.float .f64 0,.bool false,.slice none 0 0] rfl;replace hth:=Hd hth;replace hnv:=Hd hnv;have tok1:True:=trivial;go_upto_region 3 with (have _t:=tok1;refine wpList_store_mid rfl 26 _ _ rfl w4.heap.size 0 _ rfl rfl hth.out Ab (one6 _ _ _ _ _ _ _ _) ?_;clear tok1 _t)
       generalize (w4.alloc (.cells #[Value.int .i64 0,.string ⟨#[]⟩,.int .i64 0,.float .f64 0,.bool false,.slice none 0 0] 26)).setCells w4.heap.size 0 [Value.int .i64 0,.string (⟨#[]⟩:ByteArray),.int .i64 0,.float .f64 0,.bool false,.slice none 0 0]=w5 at hnv ⊢;obtain ⟨hb5,hr5,_⟩:=hnv.out;obtain ⟨G5,hGG5⟩:∃G,G=w4.heap.size:=⟨_,rfl⟩;rw [<-hGG5] at hr5 ⊢;replace hGG5:=Hd hGG5;clear hnv hth;have hb45:=hb4.trans (hb5.mono hb4.size);have hbe:=hbw.trans (hb45.mono hbw.size);replace hbe:=Hd hbe;replace hb45:=Hd hb45;clear hr5 hb4 hb5;go_wp2_with fail
       refine bodyPost_ret (v:=.tuple #[.slice ae l.length ce,.string cur,.int .i64 0]) (by simp [results,Tryz.results30,go_sem]) rfl ?_;exact ⟨l,cur,0,ae,ce,hfin.out,rfl,(hrow.out.below hb45.out).rv,hbe.out,hlen,hcnt⟩
     · have hfin:=hcont _ _ _ (.bad ho)
       rw [List.append_nil] at hfin;clear ho hcont;replace hps:=Hd hps;replace hrow:=Hd hrow;replace hfin:=Hd hfin;go_wp2_with fail
       refine hps.out.mono ?_;rintro e w4 ⟨rfl,hb4⟩;clear hps;have hth:=A2 w4 26;have hnv:=Bp w4 26 [.int .i64 0,.string (⟨#[]⟩:ByteArray),.int .i64 0,.float .f64 0,.bool false,.slice none 0 0] rfl;replace hth:=Hd hth;replace hnv:=Hd hnv;have tok1:True:=trivial;go_upto_region 3 with (have _t:=tok1;refine wpList_store_mid rfl 26 _ _ rfl w4.heap.size 0 _ rfl rfl hth.out Ab (one6 _ _ _ _ _ _ _ _) ?_;clear tok1 _t)
       generalize (w4.alloc (.cells #[Value.int .i64 0,.string ⟨#[]⟩,.int .i64 0,.float .f64 0,.bool false,.slice none 0 0] 26)).setCells w4.heap.size 0 [Value.int .i64 0,.string (⟨#[]⟩:ByteArray),.int .i64 0,.float .f64 0,.bool false,.slice none 0 0]=w5 at hnv ⊢;obtain ⟨hb5,hr5,_⟩:=hnv.out;obtain ⟨G5,hGG5⟩:∃G,G=w4.heap.size:=⟨_,rfl⟩;rw [<-hGG5] at hr5 ⊢;replace hGG5:=Hd hGG5;clear hnv hth;have hb45:=hb4.trans (hb5.mono hb4.size);have hbe:=hbw.trans (hb45.mono hbw.size);replace hbe:=Hd hbe;replace hb45:=Hd hb45;clear hr5 hb4 hb5;go_wp2_with fail
       refine bodyPost_ret (v:=.tuple #[.slice ae l.length ce,.string ⟨#[]⟩,.int .i64 51]) (by simp [results,Tryz.results30,go_sem]) rfl ?_;exact ⟨l,⟨#[]⟩,51,ae,ce,hfin.out,rfl,(hrow.out.below hb45.out).rv,hbe.out,by show l.length+0<=_;omega,hcnt⟩
   | got r=>
     obtain ⟨v,u,m⟩:=r;rw [ho] at hps
     replace hps:Calls Tryz.prog 29 #[.string cur] wr (fun e w' => ∃(a:Option Addr) (ca:Nat),e=.returned (.tuple #[.agg #[.int .i64 v.kind,.string v.text,.int .i64 v.int,.float .f64 v.real,.bool v.flag,.slice a v.list.length ca],.int .i64 (u:Int),.int .i64 0]) /\
       RV (A5 wr.heap.size w') (An v.kind v.text v.int v.real v.flag a v.list.length ca) v/\Below wr.heap.size wr w'):=hps
     have hg:=Dr (rp:=rp) (fun t r h=>hrp.out.lt t r h) 8 (Nat.le_refl _) 1 cur.data.toList v u m ho;have hvc:v.count<=1000:=by have:=hg.most (by decide);have:=hg.all;omega
     have hu0:=hg.pos;have hu1:u<=cur.size:=by have:=hg.len;rw [Array.length_toList] at this;exact this
     have hcont2:∀l' R e,AllR rp (cur.extract u cur.size).data.toList l' R e->AllR rp s.data.toList ((l++[v])++l') R e:=fun l' R e h=>by
       rw [Ei] at h;rw [List.append_assoc];exact hcont _ _ _ (.got ho h)
     have hcz:(cur.extract u cur.size).size=cur.size - u:=by rw [ByteArray.size_extract];omega
     obtain ⟨nx,hnx⟩:∃nx,cur.extract u cur.size=nx:=⟨_,rfl⟩;rw [hnx] at hcont2 hcz;have hub:((u:Int) == 0)=false:=by rw [beq_eq_false_iff_ne];omega
     have hui:(u:Int)<=(cur.size:Int):=by omega
     have hjn9:l.length<1000000000:=by omega
     clear ho hcont hg;replace hps:=Hd hps;replace hrow:=Hd hrow;replace hcont2:=Hd hcont2;replace hcz:=Hd hcz;go_wp2_with fail
     refine hps.out.mono ?_;rintro e w4 ⟨ax,cx,rfl,hrv,hb4⟩;clear hps;replace hrv:=Hd hrv;have hth:=A2 w4 26;have hnv:=Bp w4 26 [.int .i64 v.kind,.string v.text,.int .i64 v.int,.float .f64 v.real,.bool v.flag,.slice ax v.list.length cx] rfl;replace hth:=Hd hth;replace hnv:=Hd hnv;have tok1:True:=trivial;go_upto_region 3 with (have _t:=tok1;refine wpList_store_mid rfl 26 _ _ rfl w4.heap.size 0 _ rfl rfl hth.out Ab (one6 _ _ _ _ _ _ _ _) ?_;clear tok1 _t)
     generalize (w4.alloc (.cells #[Value.int .i64 0,.string ⟨#[]⟩,.int .i64 0,.float .f64 0,.bool false,.slice none 0 0] 26)).setCells w4.heap.size 0 [Value.int .i64 v.kind,.string v.text,.int .i64 v.int,.float .f64 v.real,.bool v.flag,.slice ax v.list.length cx]=w5 at hnv ⊢;obtain ⟨hb5,hr5,_⟩:=hnv.out;obtain ⟨G5,hGG5⟩:∃G,G=w4.heap.size:=⟨_,rfl⟩;rw [<-hGG5] at hr5 ⊢;replace hGG5:=Hd hGG5;clear hnv hth;have hb45:=hb4.trans (hb5.mono hb4.size);have hrow5:=hrow.out.below hb45;have hbe:=hbw.trans (hb45.mono hbw.size);have hx5:=(hrv.out.mono (D2 hb5)).mono (E4 (B:=w.heap.size) (own:=(Value.slice ae l.length ce).ownBlock) hrow.out.le (fun k hk=>(Au hrow.out.own k hk).2));have hown5:=hrow5.own;have hle5:=hrow5.le;have hob:=Au hown5;replace hob:=Hd hob;replace hrow5:=Hd hrow5;replace hbe:=Hd hbe;replace hx5:=Hd hx5;replace hr5:=Hd hr5;clear hrv hb4 hb5 hb45 hrow;have tok2:True:=trivial
     have tok3:True:=trivial
     go_wp2_with (first
       | (have _t:=tok2;refine wpList_load_mid rfl 26 _ rfl G5 0 rfl _ _ hr5.out Tryz.underlying26 rfl Ab ?_;clear tok2 _t)
       | (at_builtin;have _t:=tok3;refine Du rfl rfl eVal rfl hown5 rfl rfl rfl hjn9 hle5 ?_;clear tok3 _t))
     intro v9 w9 hown9 hf9 hn9;obtain ⟨a9,c9,rfl⟩:=(Reads.of_owns hown9).shape;have hrow9:=VRow.snoc hrow5.out hx5.out hown9 hf9 hn9;have hbe9:=hbe.out.trans (hf9.below (B:=w.heap.size) hle5 (fun i hi e=>by have:=(hob.out i e).1;omega));have hl1:(l++[v]).length=l.length+1:=by simp
     replace hrow9:=Hd hrow9;replace hbe9:=Hd hbe9;replace hl1:=Hd hl1;clear hown5 hrow5 hx5 hf9 hn9 hown9 hr5 hob;go_wp2_with fail
     go_roundw
     case rel=>exact ⟨nx,l++[v],_,by first | rfl | (rw [hnx]),hrow9.out,hbe9.out,hcont2.out,by have:=hl1.out;have:=hcz.out;omega,fun x hx=>(List.mem_append.1 hx).elim (hcnt x) (fun h=>by rw [List.mem_singleton] at h;rw [h];exact hvc)⟩
     case measure=>have:=hcz.out;simp only [textOf];first | omega | (rw [hnx];omega)
end Go.Proofs.YtagkgfniihiinaaGreatDoor
namespace Go.Proofs.YtagkgfniihiinaaGreatDoor
open Go.RowKit Go.Joins
theorem Rdr.fr {B r q:Nat} {w w' : World} {v:Value} {s:ByteArray} {S:Nat->Prop} (h:Rdr B w r v s q) (hf:Fr S w w') (h1:¬S r) (h2:∀k,v.ownBlock=some k->¬S k):Rdr B w' r v s q:=
 ⟨hf.cell h.c0 h1,hf.cell h.c1 h1,h.blk.fr hf h1,h.buf.fr hf h2,h.lt,Nat.le_trans h.le hf.size⟩
def offF (r:Nat) (v gv:Value) (w:World) (a:Addr):Option Value:=if a.block=r\/v.ownBlock=some a.block\/gv.ownBlock=some a.block then none else w.cell? a
theorem Ej {r:Nat} {v gv:Value} {w:World} {a:Addr} {u:Value} (h:offF r v gv w a=some u):w.cell? a=some u/\a.block≠r/\v.ownBlock≠some a.block/\gv.ownBlock≠some a.block:=by
 unfold offF at h;split at h
 · cases h
 · rename_i hn
   exact ⟨h,fun e=>hn (.inl e),fun e=>hn (.inr (.inl e)),fun e=>hn (.inr (.inr e))⟩
theorem Gj {r:Nat} {v gv:Value} {w:World} {a:Addr} {u:Value} (h:w.cell? a=some u) (h1:a.block≠r) (h2:v.ownBlock≠some a.block) (h3:gv.ownBlock≠some a.block):offF r v gv w a=some u:=by
 unfold offF;rw [if_neg (by rintro (e | e | e);exact h1 e;exact h2 e;exact h3 e)];exact h
structure FS (B r:Nat) (w:World) (v:Value) (s:ByteArray) (q:Nat) (gv:Value) (css:List (List Value)) (gs:List V):Prop where
 rdr:Rdr (r+1) w r v s q
 own:w.ownsRow B 26 6 gv gs.length css.flatten
 vals:RVs (offF r v gv w) css gs
 apart:∀k,v.ownBlock=some k->gv.ownBlock≠some k
 rne:gv.ownBlock≠some r
 ne:B<=r
theorem FS.blk {B r q:Nat} {w:World} {v gv:Value} {s:ByteArray} {css:List (List Value)} {gs:List V} (h:FS B r w v s q gv css gs):∀k,v.ownBlock=some k->r+1<=k/\k<w.heap.size:=h.rdr.buf.block
theorem FS.below {B r q:Nat} {w w' : World} {v gv:Value} {s:ByteArray} {css:List (List Value)} {gs:List V} (h:FS B r w v s q gv css gs) (hb:Below w.heap.size w w'):FS B r w' v s q gv css gs:=
 ⟨h.rdr.below hb,Et h.own (Fr.of_below hb) (fun k hk hle=>by have:=(Au h.own k hk).2;omega),h.vals.mono (fun a u hu=>by
   obtain ⟨h1,h2,h3,h4⟩:=Ej hu;exact Gj (Aa hb _ _ h1) h2 h3 h4),h.apart,h.rne,h.ne⟩
theorem FS.reader {B r q q' : Nat} {w w' : World} {v v' gv:Value} {s s' : ByteArray} {css:List (List Value)} {gs:List V} (h:FS B r w v s q gv css gs) (hr:Rdr (r+1) w' r v' s' q') (hf:Fr (fun k=>k=r\/v.ownBlock=some k) w w') (hn:∀k,v'.ownBlock=some k->v.ownBlock=some k\/w.heap.size<=k) :
   FS B r w' v' s' q' gv css gs:=by
 refine ⟨hr,Et h.own hf (fun k hk e=>?_),h.vals.mono (fun a u hu=>?_),fun k hk e=>?_,h.rne,h.ne⟩
 · rcases e with e | e
   · exact h.rne (by rw [<-e];exact hk)
   · exact h.apart k e hk
 · obtain ⟨h1,h2,h3,h4⟩:=Ej hu
   have hlt:=World.block_lt_of_cell? _ _ h1;refine Gj (hf.cell h1 (fun e=>by rcases e with e | e;exact h2 e;exact h3 e)) h2 (fun e=>?_) h4
   rcases hn _ e with e | e
   · exact h3 e
   · omega
 · rcases hn k hk with e1 | e1
   · exact h.apart k e1 e
   · have:=(Au h.own k e).2;omega
theorem FS.snoc {B r q:Nat} {w w' : World} {v:Value} {s:ByteArray} {ae a9:Option Addr} {ce c9:Nat} {css:List (List Value)} {gs:List V} (h:FS B r w v s q (.slice ae gs.length ce) css gs) {x:V} {ax:Option Addr} {cx:Nat}
   (hx:RV (offF r v (.slice ae gs.length ce) w) (An x.kind x.text x.int x.real x.flag ax x.list.length cx) x)
   (hown:w'.ownsRow B 26 6 (.slice a9 (gs.length+1) c9) (gs.length+1) (css.flatten++#[Value.int .i64 x.kind,.string x.text,.int .i64 x.int,.float .f64 x.real,.bool x.flag,.slice ax x.list.length cx].toList))
   (hf:Fr (fun k=>(Value.slice ae gs.length ce).ownBlock=some k) w w') (hn:∀k,(Value.slice a9 (gs.length+1) c9).ownBlock=some k->(Value.slice ae gs.length ce).ownBlock=some k\/w.heap.size<=k) :
   FS B r w' v s q (.slice a9 (gs.length+1) c9) (css++[An x.kind x.text x.int x.real x.flag ax x.list.length cx]) (gs++[x]):=by
 have hrl:=h.rdr.blk.lt
 refine ⟨h.rdr.fr hf h.rne (fun k hk e=>h.apart k hk e),?_,(h.vals.snoc hx).mono (fun a u hu=>?_),fun k hk e=>?_,fun e=>?_,h.ne⟩
 · rw [List.length_append,List.flatten_append]
   simpa [An] using hown
 · obtain ⟨h1,h2,h3,h4⟩:=Ej hu
   have hlt:=World.block_lt_of_cell? _ _ h1;refine Gj (hf.cell h1 h4) h2 h3 (fun e=>?_);rcases hn _ e with e | e
   · exact h4 e
   · omega
 · rcases hn k e with e1 | e1
   · exact h.apart k hk e1
   · have:=(h.blk k hk).2;omega
 · rcases hn r e with e1 | e1
   · exact h.rne e1
   · omega
theorem FS.newVal {B r q:Nat} {w w' : World} {v v' gv:Value} {s:ByteArray} {css:List (List Value)} {gs:List V} {cs:List Value} {x:V} (h:FS B r w v s q gv css gs) (hsub:∀k,v'.ownBlock=some k->v.ownBlock=some k) (hx:RV (A5 w.heap.size w') cs x):RV (offF r v' gv w') cs x:=
 hx.mono (fun a u hu=>by
   obtain ⟨h1,h2⟩:=Cw hu;have hrl:=h.rdr.blk.lt;exact Gj h1 (fun e=>by omega) (fun e=>by have:=(h.blk _ (hsub _ e)).2;omega) (fun e=>by have:=(Au h.own _ e).2;omega))
theorem FS.rv {B r q:Nat} {w:World} {v:Value} {s:ByteArray} {a:Option Addr} {c:Nat} {css:List (List Value)} {gs:List V} (h:FS B r w v s q (.slice a gs.length c) css gs):RV w.cell? (An 5 ⟨#[]⟩ 0 0 false a gs.length c) (.mk 5 ⟨#[]⟩ 0 0 false gs):=
 (RV.of_row (B:=0) (v:=.mk 5 ⟨#[]⟩ 0 0 false gs) rfl ⟨h.own.1,h.own.2.imp id (fun ⟨g,cap,cur,h1,_,h3⟩=>⟨g,cap,cur,h1,Nat.zero_le _,h3⟩)⟩ (h.vals.mono (fun a u hu=>by
   obtain ⟨h1,_⟩:=Ej hu;unfold A5;rw [if_neg (Nat.not_lt_zero _)];exact h1))).mono newer_all
theorem Byts.sub {w:World} {a:Option Addr} {s:ByteArray} {c l h:Nat} (hb:Byts w a s) (hl:l<=h) (hh:h<=s.size) (hc:h<=c):Src Tryz.prog 1 27 (sliced a l h c 1) (s.extract l h).size (Lib.strCells (s.extract l h)) w:=by
 have hz:(s.extract l h).size=h - l:=by rw [ByteArray.size_extract];omega
 have nothing:∀(x:Option Addr) (n m:Nat),n=0->(s.extract l h).size=0->Src Tryz.prog 1 27 (.slice x n m) (s.extract l h).size (Lib.strCells (s.extract l h)) w:=fun x n m hn h0=>by
   have e:Lib.strCells (s.extract l h)=[]:=List.length_eq_zero_iff.1 (by rw [Lib.strCells_length];exact h0);rw [e,h0,hn];cases x with
   | none=>exact Src.ofNil _ Tryz.underlying27 _
   | some ad=>exact Src.ofSlice _ Tryz.underlying27 ad 0 _ [] rfl (fun j u hj=>by cases hj) (fun u hu=>by cases hu)
 rcases Nat.eq_zero_or_pos (h - l) with h0 | h0
 · unfold sliced
   exact nothing _ _ _ h0 (by omega)
 · rcases hb with h9 | ⟨b,o,rfl,h2⟩
   · omega
   · rw [hz]
     unfold sliced;rw [if_neg (by omega),Option.map_some,Nat.mul_one];have e:(⟨b,o,none⟩:Addr).add l=⟨b,o+l,none⟩:=add_zr b o l;rw [e];refine Src.ofSlice _ Tryz.underlying27 ⟨b,o+l,none⟩ (h - l) (c - l) _ (by rw [Lib.strCells_length,Nat.mul_one,hz]) (fun j u hj=>?_) (Lib.strCells_oneCell _);have hjl:j<(s.extract l h).size:=by
       have:=(List.getElem?_eq_some_iff.1 hj).1;rwa [Lib.strCells_length] at this
     rw [add_zr,Nat.add_assoc,h2 (l+j) (by omega),<-hj,cells_at _ j hjl];congr 3;exact congrArg UInt8.toNat (ByteArray.getElem_extract (by omega)).symm
theorem bytes_mid (a:Option Addr) (n c l h:Nat) (h1:l<=h) (h2:h<=c) (W:World):(Instr.slice 27 (.slice a n c) (some (.int .i64 (l:Int))) (some (.int .i64 (h:Int))) none).run Tryz.prog W=.ok (sliced a l h c 1) W:=by
 have hz:(sizeOf (Tryz.prog.elem 27)).run Tryz.prog W=.ok 1 W:=by kernel_rfl
 rw [run_slice_lh W _ _ _ _ (by kernel_rfl) _ _ _ _ (by omega) (by omega) (by omega),hz];rfl
def Ints (w:World) (a:Option Addr) (zs:List Int):Prop:=∀j (h:j<zs.length),∃b o,a=some ⟨b,o,none⟩/\w.cell? ⟨b,o+j,none⟩=some (.int .i64 zs[j])
theorem Ints.below {w w' : World} {a:Option Addr} {zs:List Int} (h:Ints w a zs) (hb:Below w.heap.size w w'):Ints w' a zs:=fun j hj=>by
 obtain ⟨b,o,h1,h2⟩:=h j hj;exact ⟨b,o,h1,Aa hb _ _ h2⟩
theorem open_intsF {H:Type} {enc:TypeId × Value->H} {w:World} {fuel:Nat} {a:Option Addr} {n cap:Nat} {x:DataW H × List MemPlace} (h:DataW.trod enc Tryz.prog w 0 (fun _=>true) true fuel 49 [.slice a n cap]=some x) :
   ∃zs:List Int,zs.length=n/\Ints w a zs:=by
 rcases Go.Deep.open_slice Tryz.underlying49 h with h0 | ⟨ad,len', cap', m,k,D,Pl,hcs,hb,hl,hm,hmm,hx,hi⟩
 · obtain ⟨h0,_⟩:=h0
   simp at h0;obtain ⟨rfl,rfl,rfl⟩:=h0;exact ⟨[],rfl,fun j hj=>absurd hj (Nat.not_lt_zero _)⟩
 · simp at hcs
   obtain ⟨rfl,rfl,rfl⟩:=hcs;simp at hmm;subst hmm;have hC:Tryz.prog.cellsOf 3=1:=by kernel_rfl
   obtain ⟨xs,hxl,hxr⟩:=Ff (R:=fun i (c:Int)=>w.cell? (ad.add i)=some (.int .i64 c)) n (fun i him=>by
     obtain ⟨cs', hc,ht'⟩:=hi i (by omega);obtain ⟨z,rfl,_,hz⟩:=DataW.trod_int Tryz.underlying3 ht';rw [hC] at hc;obtain ⟨_,hcl,hat⟩:=World.cells?_some hc;have h0:=hat 0 (by omega);exact ⟨z,by simpa [Addr.add] using h0⟩)
   refine ⟨xs,hxl,fun j hj=>?_⟩;obtain ⟨b,o,rfl⟩:=add_plain (hxr 0 (by omega));refine ⟨b,o,rfl,?_⟩;have:=hxr j hj;rw [add_mk] at this;exact this
theorem AllR.len {rp:Rp} (hrp:∀t r,rp t=some r->r<18446744073709551616) {L R:List UInt8} {l:List V} {e:Nat} (h:AllR rp L l R e):l.length+R.length<=L.length:=by
 induction h with
 | bad _=>exact Nat.zero_le _
 | wait _=>simp
 | got h1 _ ih=>
   have hg:=Dr hrp 8 (Nat.le_refl _) _ _ _ _ _ h1;have h1:=hg.pos;have h2:=hg.len;rw [List.length_drop] at ih;rw [List.length_cons];omega
def Inn (rp:Rp) (L:List UInt8) (gs:List V) (R:ByteArray) (q:Nat):Prop:=(q=0/\(∀l' R' e', AllR rp R.data.toList l' R' e' -> AllR rp L (gs++l') R' e'))\/(q=51/\R=⟨#[]⟩/\AllR rp L gs [] 51)
def rdrN (w:World) (r:Nat):Nat:=match w.cell? ⟨r,0,none⟩ with
 | some (.slice _ n _)=>n
 | _=>0
theorem take_ext (s:ByteArray) {l h:Nat} (hl:l<=h) (hh:h<=s.size):s.data.toList.take l++(s.extract l h).data.toList=s.data.toList.take h:=by
 rw [ByteArray.data_extract,Array.toList_extract,List.extract_eq_take_drop,<-List.take_add];congr 1;omega
theorem feed_fs {rp:Rp} (hrp:∀t r,rp t=some r->r<18446744073709551616) {B r q:Nat} {w:World} {v gv x:Value} {s R t:ByteArray} {css:List (List Value)} {gs:List V} {l h:Nat} (hfs:FS B r w v R q gv css gs) (hx:Src Tryz.prog 1 27 x t.size (Lib.strCells t) w)
   (hq:q=0\/(q=51/\R=⟨#[]⟩)) (hall:AllR rp (s.data.toList.take l) gs R.data.toList q) (ht:t=s.extract l h) (hl:l<=h) (hh:h<=s.size) (hz:s.size<=1000000) (hBw:B<=w.heap.size) :
   Calls Tryz.prog 26 #[.pointer (some ⟨r,0,none⟩),x] w fun e w' => ∃(v' : Value) (R' : ByteArray),e=.returned (.tuple #[])/\FS B r w' v' R' q gv css gs/\Inn rp (s.data.toList.take h) gs R' q/\Below B w w' /\ gs.length+R'.size<=h:=by
 have hlen:gs.length+R.size<=l:=by
   have h1:=hall.len hrp;have e1:R.data.toList.length=R.size:=by rw [Array.length_toList];rfl
   rw [List.length_take] at h1;omega
 have he:=take_ext s hl hh
 rw [<-ht] at he
 rcases hq with rfl | ⟨rfl,rfl⟩
 · have e2:t.size=h - l:=by rw [ht,ByteArray.size_extract];omega
   refine (feed_okF hfs.rdr hx (by omega)).mono ?_;rintro e w' ⟨v', rfl,hr,hf,hn⟩;refine ⟨v', _,rfl,hfs.reader hr hf hn,.inl ⟨rfl,fun l' R' e' h=>?_⟩,hf.below hBw (fun i hi e=>?_),by rw [ByteArray.size_append];omega⟩
   · rw [ByteArray.data_append,Array.toList_append] at h
     rw [<-he];exact hall.wait_ext hrp rfl t.data.toList h
   · have:=hfs.ne
     rcases e with e | e
     · omega
     · have:=(hfs.blk i e).1;omega
 · refine (feed_err hfs.rdr (by decide)).mono ?_
   rintro e w' ⟨rfl,hww⟩;obtain rfl:=hww.symm;refine ⟨v,_,rfl,hfs,.inr ⟨rfl,rfl,?_⟩,Below.refl _ _,by omega⟩;rw [<-he];have h0:(⟨#[]⟩:ByteArray).data.toList=[]:=rfl;rw [h0] at hall;exact hall.bad_ext hrp rfl t.data.toList
theorem next_stop_fs {rp:Rp} (hrp:RpAll rp) {B r q:Nat} {w:World} {v gv:Value} {R:ByteArray} {L:List UInt8} {css:List (List Value)} {gs:List V} (hfs:FS B r w v R q gv css gs) (hinn:Inn rp L gs R q) (hz:R.size<=1000000) (hno:q=0->∃e,At rp 8 1 R.data.toList=.stop e) (hN:Nums w) (hY:Lay w) :
   Calls Tryz.prog 27 #[.pointer (some ⟨r,0,none⟩)] w fun e w' => ∃(q' : Nat) (v' : Value) (R' : ByteArray),e=.returned (.tuple #[.agg #[.int .i64 0,.string ⟨#[]⟩,.int .i64 0,.float .f64 0,.bool false,.slice none 0 0],.bool false,.int .i64 (q' : Int)])/\FS B r w' v' R' q' gv css gs/\(q' = 0\/(q' = 51/\R' = ⟨#[]⟩))/\AllR rp L gs R'.data.toList q' /\ Fr (fun k=>k=r) w w' := by
 rcases hinn with ⟨rfl,hc⟩ | ⟨rfl,rfl,hb⟩
 · obtain ⟨e,he⟩:=hno rfl
   rcases (Dx (rp:=rp) (fun t r h=>hrp.lt t r h) 8 (Nat.le_refl _) 1 R.data.toList []).2.2 e he with rfl | rfl
   · refine (next_stop0F hfs.rdr (by omega) (hrp.env hN hY) (hrp.need 8 1 _) he).mono ?_
     rintro e w' ⟨h1,⟨v', h2,h3⟩,h4⟩;have h5:=hc _ _ _ (.wait he);rw [List.append_nil] at h5;exact ⟨0,v', R,h1,hfs.reader h2 (h4.mono fun _ _ e=>.inl e) (fun k hk=>.inl (h3 k hk)),.inl rfl,h5,h4⟩
   · refine (next_stopq hfs.rdr (by decide) (by omega) (hrp.env hN hY) (hrp.need 8 1 _) he).mono ?_
     rintro e w' ⟨h1,h2,h4⟩;have h5:=hc _ _ _ (.bad he);rw [List.append_nil] at h5;exact ⟨51,_,_,h1,hfs.reader h2 (h4.mono fun _ _ e=>.inl e) (fun k hk=>by cases hk),.inr ⟨rfl,rfl⟩,h5,h4⟩
 · refine (R2.next_err hfs.rdr (by decide)).mono ?_
   rintro e w' ⟨h1,h2⟩;exact ⟨51,v,_,h1,hfs.below h2,.inr ⟨rfl,rfl⟩,hb,(Fr.of_below h2).mono fun i hi hle=>absurd hi (Nat.not_lt_of_le hle)⟩
theorem next_got_fs {rp:Rp} (hrp:RpAll rp) {B r u m:Nat} {w:World} {v gv:Value} {R:ByteArray} {L:List UInt8} {css:List (List Value)} {gs:List V} {x:V} (hfs:FS B r w v R 0 gv css gs) (hinn:Inn rp L gs R 0) (hz:R.size<=1000000) (hg:At rp 8 1 R.data.toList=.got (x,u,m)) (hN:Nums w) (hY:Lay w) :
   Calls Tryz.prog 27 #[.pointer (some ⟨r,0,none⟩)] w fun e w' => ∃(ad:Option Addr) (ca:Nat) (v' : Value) (R' : ByteArray),e=.returned (.tuple #[.agg #[.int .i64 x.kind,.string x.text,.int .i64 x.int,.float .f64 x.real,.bool x.flag,.slice ad x.list.length ca],.bool true,.int .i64 0]) /\
     RV (offF r v' gv w') (An x.kind x.text x.int x.real x.flag ad x.list.length ca) x/\FS B r w' v' R' 0 gv css gs/\Inn rp L (gs++[x]) R' 0/\R'.size<R.size/\Fr (fun k=>k=r) w w' := by
 have hgd:=Dr (rp:=rp) (fun t r h=>hrp.lt t r h) 8 (Nat.le_refl _) 1 R.data.toList x u m hg
 have hu:u<=R.size:=by have:=hgd.len;rw [Array.length_toList] at this;exact this
 have hu0:=hgd.pos
 refine (next_gotF hfs.rdr hu hu0 (by omega) (hrp.env hN hY) (hrp.need 8 1 _) hg).mono ?_
 rintro e w' ⟨ad,ca,h1,h2,⟨v', h3,h4⟩,h5⟩
 refine ⟨ad,ca,v', _,h1,hfs.newVal h4 h2,hfs.reader h3 (h5.mono fun _ _ e=>.inl e) (fun k hk=>.inl (h4 k hk)),.inl ⟨rfl,fun l' R' e' h=>?_⟩,by rw [ByteArray.size_extract];omega,h5⟩
 rcases hinn with ⟨_,hc⟩ | ⟨h0,_⟩
 · rw [Ei] at h
   rw [List.append_assoc];exact hc _ _ _ (.got hg h)
 · exact absurd h0 (by decide)
theorem FS.rdrN {B r q:Nat} {w:World} {v gv:Value} {s:ByteArray} {css:List (List Value)} {gs:List V} (h:FS B r w v s q gv css gs):rdrN w r=s.size:=by
 obtain ⟨a,c,hv,_⟩:=h.rdr.buf.shape;have:=h.rdr.c0;rw [hv] at this;unfold Go.Proofs.YtagkgfniihiinaaGreatDoor.rdrN;rw [this]
set_option maxRecDepth 100000 in
set_option maxHeartbeats 12800000 in
theorem feedsL_any (a:Option Addr) (s:ByteArray) (c:Nat) (az:Option Addr) (zs:List Int) (cz:Nat) (w:World) (hm:Byts w a s) (hc:s.size<=c) (hz:Ints w az zs) (hN:Nums w) (hY:Lay w) :
   Calls Tryz.prog 9 #[.slice a s.size c,.slice az zs.length cz] w fun e w' => e=.returned (.bool true)/\Below w.heap.size w w' := by
 obtain ⟨n,hn⟩:∃n,n=s.size:=⟨_,rfl⟩
 obtain ⟨m,hm9⟩:∃m,m=zs.length:=⟨_,rfl⟩
 rw [<-hm9]
 have hal:=alive05_any (w:=w) hN
 replace hal:=Hd hal
 by_cases h1:5000<n
 · rw [<-hn]
   have h1i:(5000:Int)<(n:Int):=by omega
   replace hn:=Hd hn;replace hm:=Hd hm;replace hm9:=Hd hm9
   go_enter Tryz.func9,Tryz.ntmps9
   go_wp2_with fail
   refine hal.out.mono ?_;rintro e w1 ⟨rfl,hb1⟩;go_wp2_with fail
   go_ret;exact ⟨rfl,hb1⟩
 by_cases h2:50<m
 · rw [<-hn]
   have h1i:¬(5000:Int)<(n:Int):=by omega
   have h2i:(50:Int)<(m:Int):=by omega
   replace hn:=Hd hn;replace hm:=Hd hm;replace hm9:=Hd hm9
   go_enter Tryz.func9,Tryz.ntmps9
   go_wp2_with fail
   refine hal.out.mono ?_;rintro e w1 ⟨rfl,hb1⟩;go_wp2_with fail
   go_ret;exact ⟨rfl,hb1⟩
 have hcv:=fun (W:World) (hW:Below w.heap.size w W)=>(hm.below hW).text (c:=c)
 have hp5:=fun (W:World) (hW:Below w.heap.size w W)=>all5_any rpP_all (s:=s) (w:=W) (by omega) (hY.below hW)
 rw [<-hn] at hcv ⊢
 have h1i:¬(5000:Int)<(n:Int):=by omega
 have h2i:¬(50:Int)<(m:Int):=by omega
 have hcn:n<=c:=by omega
 replace hcv:=Hd hcv
 replace hp5:=Hd hp5
 replace hn:=Hd hn
 replace hm9:=Hd hm9
 replace hm:=Hd hm
 replace hz:=Hd hz
 replace hN:=Hd hN
 replace hY:=Hd hY
 go_enter Tryz.func9,Tryz.ntmps9
 go_wp2_with fail
 refine hal.out.mono ?_
 rintro e w1 ⟨rfl,hb1⟩
 clear hal
 have hcv1:=hcv.out w1 hb1
 have hp1:=hp5.out w1 hb1
 replace hp1:=Hd hp1
 replace hb1:=Hd hb1
 go_wp2_with fail
 refine hp1.out.mono ?_
 rintro e w4 ⟨l0,R0,q0,a0,c0,hall0,rfl,hrv0,hb4,hlen0,hcnt0⟩
 have hb04:=hb1.out.trans (hb4.mono hb1.out.size)
 have hl0:=(InList.of (hrv0.mono newer_all)).2
 clear hp1 hcv1 hcv hp5 hrv0 hb4 hb1
 obtain ⟨w5,hw5⟩:∃W,W=w4.alloc (.cells #[.slice none 0 0,.int .i64 0] 74):=⟨_,rfl⟩
 have hR0:=rdr_new w4
 rw [<-hw5] at hR0
 obtain ⟨r,hr0⟩:∃r,r=w4.heap.size:=⟨_,rfl⟩
 rw [<-hr0] at hR0
 have hb45:Below w4.heap.size w4 w5:=by rw [hw5];exact (Below.refl _ _).alloc (Nat.le_refl _) _
 have hs5:w5.heap.size=r+1:=by rw [hw5,hr0];simp
 obtain ⟨w6,hw6⟩:∃W,W=w5.alloc (.cells #[] 26):=⟨_,rfl⟩
 have hb56:Below w5.heap.size w5 w6:=by rw [hw6];exact (Below.refl _ _).alloc (Nat.le_refl _) _
 have hb46:=hb45.trans (hb56.mono hb45.size)
 have hfs0:FS r r w6 (.slice none 0 0) ⟨#[]⟩ 0 (.slice (some ⟨r+1,0,none⟩) 0 0) [] []:=⟨hR0.below hb56,by
   rw [hw6,<-hs5];exact World.ownsRow_lit w5 #[] 0 (by omega) (by decide) (by rfl),RVs.nil _,fun k hk=>(by cases hk),(by simp [Value.ownBlock]),Nat.le_refl _⟩
 have hall9:AllR rpP (s.data.toList.take 0) [] (⟨#[]⟩:ByteArray).data.toList 0:=.wait (scan_nil (rp:=rpP) (lv:=8) (many:=1)).1
 rw [<-hr0] at hb46
 replace hall0:=Hd hall0
 replace hl0:=Hd hl0
 replace hb04:=Hd hb04
 replace hlen0:=Hd hlen0
 replace hcnt0:=Hd hcnt0
 replace hfs0:=Hd hfs0
 replace hb46:=Hd hb46
 replace hall9:=Hd hall9
 clear hR0 hb45 hb56
 go_wp2_with fail
 refine (rnew_any w4).mono ?_
 rintro e w' ⟨rfl,hww⟩
 rw [<-hw5] at hww
 obtain rfl:=hww.symm
 clear hww
 rw [<-hr0]
 replace hw5:=Hd hw5
 replace hr0:=Hd hr0
 go_wp2_with fail
 rw [<-hw6]
 replace hw6:=Hd hw6
 replace hs5:=Hd hs5
 go_loopw [9,10,11,12] (fun gv ev av iv wr=>∃(i at_ q:Nat) (v:Value) (R:ByteArray) (css:List (List Value)) (gs:List V),i<=m+1/\ev=.int .i64 (q:Int)/\av=.int .i64 (at_:Int)/\iv=.int .i64 (i:Int)/\at_<=n/\FS r r wr v R q gv css gs/\(q=0\/(q=51/\R=⟨#[]⟩))/\AllR rpP (s.data.toList.take at_) gs R.data.toList q/\Below r w4 wr/\(i=m+1->at_=n)) (fun _ _ _ iv _=>m+1 - (intOf iv).toNat)
 case atStart=>exact ⟨0,0,0,_,_,[],[],Nat.zero_le _,rfl,rfl,rfl,Nat.zero_le _,hfs0.out,.inl rfl,hall9.out,hb46.out,fun e=>by omega⟩
 case round=>
   obtain ⟨i,at_,q,v,R,css,gs,hi,rfl,rfl,rfl,hat,hfs,hq,hall,hbw,hend⟩:=hrel;obtain ⟨ga,gc,rfl⟩:=(Reads.of_owns hfs.own).shape;have hbw4:Below w4.heap.size w4 wr:=by rw [<-hr0.out];exact hbw
   have hbwW:=hb04.out.trans (hbw4.mono hb04.out.size);clear hfs0 hall9 hb46;by_cases hlt:i<=m
   · have hlti:(i:Int)<=(m:Int):=by omega
     have hwi:IntKind.i64.wrap ((i:Int)+1)=((i+1:Nat):Int):=by rw [IntWalk.i64_in _ (by omega)];rfl
     obtain ⟨p,hp⟩:∃p:Bool,p=decide (i<m):=⟨_,rfl⟩;obtain ⟨z,hz9⟩:∃z:Int,z=zs.getD i 0:=⟨_,rfl⟩;obtain ⟨tt,hat2,hto⟩:∃tt:Nat,at_<=tt/\(p=true->max (at_:Int) (min z (n:Int))=(tt:Int))/\tt<=n/\(¬i<m->tt=n):=by
       by_cases him:i<m
       · refine ⟨(max (at_:Int) (min z (n:Int))).toNat,by omega,fun _=>by omega,by omega,fun h=>absurd him h⟩
       · exact ⟨n,hat,fun h=>by rw [hp,decide_eq_true_eq] at h;exact absurd h him,Nat.le_refl _,fun _=>rfl⟩
     have hzi:=hz.out.below hbwW;have hsz:s.size=n:=hn.out.symm;have hsrc:=(hm.out.below hbwW).sub (c:=c) hat2 (by omega) (by omega);have hmid:=bytes_mid a n c at_ tt hat2 (by omega);obtain ⟨a1,n1,c1,e1⟩:∃a1 n1 c1,sliced a at_ tt c 1=.slice a1 n1 c1:=⟨_,_,_,rfl⟩;rw [e1] at hsrc hmid;have hfd:=feed_fs (rp:=rpP) (fun t r h=>rpP_all.lt t r h) hfs hsrc hq hall rfl hat2 (by omega) (by omega) (Nat.le_trans (Nat.le_of_lt hfs.rdr.blk.lt) (Nat.le_refl _));have htoi:((at_:Nat):Int)<=(tt:Int):=by omega
     replace hp:=Hd hp;replace hz9:=Hd hz9;replace hto:=Hd hto;replace hfd:=Hd hfd;replace hzi:=Hd hzi;replace hsz:=Hd hsz;replace hbw:=Hd hbw;clear e1 hsrc hfs hq hall hbw4 hbwW hend;go_upto_region 14 with fail
     go_cut [48] from 47 to 48 (fun s5 wx=>s5=.bool p/\wx=wr)
     case first=>
       by_cases him:i<m
       · have himi:(i:Int)<(m:Int):=by omega
         obtain rfl:p=true:=by rw [hp.out];exact decide_eq_true him
         go_wp2_with fail
         go_meet
         exact ⟨rfl,rfl⟩
       · have himi:¬(i:Int)<(m:Int):=by omega
         obtain rfl:p=false:=by rw [hp.out];exact decide_eq_false him
         go_wp2_with fail
         go_meet
         exact ⟨rfl,rfl⟩
     obtain ⟨rfl,hww⟩:=hcut;obtain rfl:=hww.symm;clear hww
     go_upto_if 48 with fail
     go_cut [13] from 52 to 57 (fun s5 wx=>s5=.int .i64 (tt:Int)/\wx=wr)
     case first=>
       cases p with
       | false=>
         have him:¬i<m:=of_decide_eq_false hp.out.symm;have e2:=hto.out.2.2 him;replace hto:=Hd hto;replace e2:=Hd e2;go_wp2_with fail
         go_meet
         exact ⟨by rw [e2.out],rfl⟩
       | true=>
         have him:i<m:=of_decide_eq_true hp.out.symm;have himi:(i:Int)<(m:Int):=by omega
         have hil:i<zs.length:=by rw [<-hm9.out];exact him
         obtain ⟨bz,oz,rfl,hcz⟩:=hzi.out i hil;have hze:zs[i]=z:=by rw [hz9.out,List.getD_eq_getElem?_getD,List.getElem?_eq_getElem hil];rfl
         rw [hze] at hcz;have hmx:=hto.out.1 rfl;clear hze hzi;go_wp2_with fail
         go_meet
         exact ⟨by first | rfl | rw [hmx],rfl⟩
     obtain ⟨rfl,hww⟩:=hcut;obtain rfl:=hww.symm;clear hww;go_wp2_with fail
     refine hfd.out.mono ?_;rintro e w2 ⟨v2,R2,rfl,hfs2,hinn2,hb2,hgl2⟩;have hbw2:=hbw.out.trans hb2;have hgl29:gs.length+R2.size<=n:=by have:=hto.out.2.1;omega
     clear hgl2;clear hfd hb2 hbw hmid;replace hfs2:=Hd hfs2;replace hinn2:=Hd hinn2;replace hbw2:=Hd hbw2;go_wp2_with fail
     go_loopw [9,10] (fun gv ev wr=>∃(q:Nat) (v:Value) (R:ByteArray) (css:List (List Value)) (gs:List V),FS r r wr v R q gv css gs/\Inn rpP (s.data.toList.take tt) gs R q/\Below r w4 wr/\R.size<=n/\gs.length+R.size<=n) (fun _ _ wr=>rdrN wr r)
     case atStart=>exact ⟨q,v2,R2,css,gs,hfs2.out,hinn2.out,hbw2.out,by omega,hgl29⟩
     case round=>
       obtain ⟨q3,v3,R3,css3,gs3,hfs3,hinn3,hbw3,hR3,hgl3⟩:=hrel;obtain ⟨ga3,gc3,rfl⟩:=(Reads.of_owns hfs3.own).shape;have hbw34:Below w4.heap.size w4 wr:=by rw [<-hr0.out];exact hbw3
       have hbwW3:=hb04.out.trans (hbw34.mono hb04.out.size);have hN3:=hN.out.below hbwW3;have hY3:=hY.out.below hbwW3;clear hfs2 hinn2 hbw2;by_cases hgo:q3=0/\∃x u mm,At rpP 8 1 R3.data.toList=.got (x,u,mm)
       · obtain ⟨rfl,x,u,mm,hgo⟩:=hgo
         have hnx:=next_got_fs rpP_all hfs3 hinn3 (by omega) hgo hN3 hY3;have hrn:=hfs3.rdrN;have hjn9:gs3.length<1000000000:=by omega
         clear hgo hN3 hY3 hfs3 hinn3 hbw34 hbwW3;replace hnx:=Hd hnx;replace hbw3:=Hd hbw3;replace hrn:=Hd hrn;go_wp2_with fail
         refine hnx.out.mono ?_;rintro e w5 ⟨ax,cx,v5,R5,rfl,hrv5,hfs5,hinn5,hlt5,hf5⟩;have hrle:r<=wr.heap.size:=by have h1:=hbw3.out.size;have h2:=hr0.out;omega
         have hbw5:=hbw3.out.trans (hf5.below (B:=r) hrle (fun i hi e=>by omega));clear hnx hf5 hbw3;replace hrv5:=Hd hrv5;replace hfs5:=Hd hfs5;replace hinn5:=Hd hinn5;replace hbw5:=Hd hbw5;have hth:=A2 w5 26;have hnv:=Bp w5 26 [.int .i64 x.kind,.string x.text,.int .i64 x.int,.float .f64 x.real,.bool x.flag,.slice ax x.list.length cx] rfl;replace hth:=Hd hth;replace hnv:=Hd hnv;have tok1:True:=trivial;go_upto_region 19 with (have _t:=tok1;refine wpList_store_mid rfl 26 _ _ rfl w5.heap.size 0 _ rfl rfl hth.out Ab (one6 _ _ _ _ _ _ _ _) ?_;clear tok1 _t)
         generalize (w5.alloc (.cells #[Value.int .i64 0,.string ⟨#[]⟩,.int .i64 0,.float .f64 0,.bool false,.slice none 0 0] 26)).setCells w5.heap.size 0 [Value.int .i64 x.kind,.string x.text,.int .i64 x.int,.float .f64 x.real,.bool x.flag,.slice ax x.list.length cx]=w6 at hnv ⊢;obtain ⟨hb6,hr6,_⟩:=hnv.out;obtain ⟨G6,hGG6⟩:∃G,G=w5.heap.size:=⟨_,rfl⟩;rw [<-hGG6] at hr6 ⊢;replace hGG6:=Hd hGG6;clear hnv hth;have hfs6:=hfs5.out.below hb6;have hrv6:=hrv5.out.mono (c' := offF r v5 (.slice ga3 gs3.length gc3) w6) (fun a u hu=>by
           obtain ⟨k1,k2,k3,k4⟩:=Ej hu;exact Gj (Aa hb6 _ _ k1) k2 k3 k4)
         have hbw6:=hbw5.out.trans (hb6.mono (by have h1:=hbw5.out.size;have h2:=hr0.out;omega));have hown6:=hfs6.own;have hle6:r<=w6.heap.size:=by have h1:=hbw6.size;have h2:=hr0.out;omega
         have hob6:=Au hown6;replace hob6:=Hd hob6;replace hfs6:=Hd hfs6;replace hrv6:=Hd hrv6;replace hbw6:=Hd hbw6;replace hr6:=Hd hr6;clear hrv5 hfs5 hbw5 hb6;have tok2:True:=trivial;have tok3:True:=trivial
         go_wp2_with (first
           | (have _t:=tok2;refine wpList_load_mid rfl 26 _ rfl G6 0 rfl _ _ hr6.out Tryz.underlying26 rfl Ab ?_;clear tok2 _t)
           | (at_builtin;have _t:=tok3;refine Du rfl rfl eVal rfl hown6 rfl rfl rfl hjn9 hle6 ?_;clear tok3 _t))
         intro v9 w9 hown9 hf9 hn9;obtain ⟨a9,c9,rfl⟩:=(Reads.of_owns hown9).shape;have hfs9:=FS.snoc hfs6.out hrv6.out hown9 hf9 hn9;have hbw9:=hbw6.out.trans (hf9.below (B:=r) hle6 (fun i hi e=>by have:=(hob6.out i e).1;omega));have hrn9:=hfs9.rdrN;have hl1:(gs3++[x]).length=gs3.length+1:=by simp
         replace hfs9:=Hd hfs9;replace hbw9:=Hd hbw9;replace hrn9:=Hd hrn9;replace hl1:=Hd hl1;clear hown6 hfs6 hrv6 hf9 hn9 hown9 hr6 hob6 hbw6;go_wp2_with fail
         go_roundw
         case rel=>exact ⟨0,v5,R5,_,gs3++[x],hfs9.out,hinn5.out,hbw9.out,by omega,by rw [hl1.out];omega⟩
         case measure=>rw [hrn9.out,hrn.out];exact hlt5
       · have hno:q3=0->∃e,At rpP 8 1 R3.data.toList=.stop e:=fun h0=>by
           cases ho:At rpP 8 1 R3.data.toList with
           | stop e=>exact ⟨e,rfl⟩
           | got p=>exact absurd ⟨h0,p.1,p.2.1,p.2.2,ho⟩ hgo
         have hnx:=next_stop_fs rpP_all hfs3 hinn3 (by omega) hno hN3 hY3;clear hgo hno hN3 hY3 hfs3 hinn3 hbw34 hbwW3;replace hnx:=Hd hnx;replace hbw3:=Hd hbw3;go_wp2_with fail
         refine hnx.out.mono ?_;rintro e w5 ⟨q5,v5,R5,rfl,hfs5,hq5,hall5,hf5⟩;have hrle:r<=wr.heap.size:=by have h1:=hbw3.out.size;have h2:=hr0.out;omega
         have hbw5:=hbw3.out.trans (hf5.below (B:=r) hrle (fun i hi e=>by omega));clear hnx hf5 hbw3;replace hq5:=Hd hq5;replace hfs5:=Hd hfs5;replace hall5:=Hd hall5;replace hbw5:=Hd hbw5;have hth:=A2 w5 26;have hnv:=Bp w5 26 [.int .i64 0,.string (⟨#[]⟩:ByteArray),.int .i64 0,.float .f64 0,.bool false,.slice none 0 0] rfl;replace hth:=Hd hth;replace hnv:=Hd hnv;have tok1:True:=trivial;go_upto_region 19 with (have _t:=tok1;refine wpList_store_mid rfl 26 _ _ rfl w5.heap.size 0 _ rfl rfl hth.out Ab (one6 _ _ _ _ _ _ _ _) ?_;clear tok1 _t)
         generalize (w5.alloc (.cells #[Value.int .i64 0,.string ⟨#[]⟩,.int .i64 0,.float .f64 0,.bool false,.slice none 0 0] 26)).setCells w5.heap.size 0 [Value.int .i64 0,.string (⟨#[]⟩:ByteArray),.int .i64 0,.float .f64 0,.bool false,.slice none 0 0]=w6 at hnv ⊢;obtain ⟨hb6,hr6,_⟩:=hnv.out;obtain ⟨G6,hGG6⟩:∃G,G=w5.heap.size:=⟨_,rfl⟩;rw [<-hGG6] at hr6 ⊢;replace hGG6:=Hd hGG6;clear hnv hth;have hfsE:=hfs5.out.below hb6;have hbwE:=hbw5.out.trans (hb6.mono (by have h1:=hbw5.out.size;have h2:=hr0.out;omega));replace hfsE:=Hd hfsE;replace hbwE:=Hd hbwE;clear hr6 hb6 hfs5 hbw5;go_wp2_with fail
         go_roundw
         case rel=>exact ⟨i+1,tt,q5,v5,R5,css3,gs3,by omega,rfl,by first | rfl | go_num,by first | rfl | go_num,hto.out.2.1,hfsE.out,hq5.out,hall5.out,hbwE.out,fun e=>hto.out.2.2 (by omega)⟩
         case measure=>simp [intOf];omega
   · obtain rfl:i=m+1:=by omega
     obtain rfl:at_=n:=hend rfl;have hlti:¬(((m+1:Nat):Int)<=(m:Int)):=by omega
     have htk:s.data.toList.take at_=s.data.toList:=List.take_of_length_le (by rw [Array.length_toList];have:=hn.out;exact Nat.le_of_eq this.symm);rw [htk] at hall;obtain ⟨e1,e2,e3⟩:=hall.uniq hall0.out;subst e1;subst e3;have hRz:R.size=R0.size:=by
       have h1:=congrArg List.length e2;rw [Array.length_toList,Array.length_toList] at h1;exact h1
     have hlg:=(InList.of hfs.rv).2;obtain ⟨av,cv,rfl,_⟩:=hfs.rdr.buf.shape;have hL:=left_any hfs.rdr.c0;rw [hRz] at hL;have hw:=hl0.out.below hbw4;have hlen9:=hlen0.out;have hbe:=hbwW;replace hL:=Hd hL;replace hlg:=Hd hlg;replace hw:=Hd hw;replace hbe:=Hd hbe;clear hfs hq hall hbw hbw4 hbwW e2 hRz htk hend hl0 hall0 hlen0;go_wp2_with fail
     refine hL.out.mono ?_;rintro e w' ⟨rfl,hww⟩;obtain rfl:=hww.symm;clear hww hL;have hjz:gs.length<=5000:=by have:=hn.out;omega
     obtain ⟨WE,hWE⟩:∃W,W=wr:=⟨_,rfl⟩;rw [<-hWE] at hlg hw hbe ⊢;replace hWE:=Hd hWE;go_wp2_with fail
     go_loopw [97] (fun jv wx=>∃j:Nat,jv=.int .i64 (j:Int)/\j<=gs.length/\Below WE.heap.size WE wx) (fun jv _=>gs.length - (intOf jv).toNat)
     case atStart=>exact ⟨0,rfl,Nat.zero_le _,Below.refl _ _⟩
     case round=>
       obtain ⟨j,rfl,hj,hbx⟩:=hrel;by_cases hjl:j<gs.length
       · have hji:(j:Int)<(gs.length:Int):=by omega
         have hwj:IntKind.i64.wrap ((j:Int)+1)=((j+1:Nat):Int):=by rw [IntWalk.i64_in _ (by omega)];rfl
         obtain ⟨b1,o1,ad1,ca1,e1,hcs1,hrv1⟩:=(hlg.out.below hbx).at_ j hjl;obtain ⟨b2,o2,ad2,ca2,e2,hcs2,hrv2⟩:=(hw.out.below hbx).at_ j hjl;obtain ⟨x,hx⟩:∃x,x=gs[j]:=⟨_,rfl⟩;have hxc:=hcnt0.out _ (List.getElem_mem hjl);rw [<-hx] at hcs1 hrv1 hcs2 hrv2 hxc;subst e1;subst e2;have p0:=hcs1 0 _ rfl;have p1:=hcs1 1 _ rfl;have p2:=hcs1 2 _ rfl;have p3:=hcs1 3 _ rfl;have p4:=hcs1 4 _ rfl;have p5:=hcs1 5 _ rfl;have g0:=hcs2 0 _ rfl;have g1:=hcs2 1 _ rfl;have g2:=hcs2 2 _ rfl;have g3:=hcs2 3 _ rfl;have g4:=hcs2 4 _ rfl;have g5:=hcs2 5 _ rfl;simp only [Nat.zero_add,Nat.add_zero] at g0 g1 g2 g3 g4 g5 p0 p1 p2 p3 p4 p5;have hl5:b1<wr.heap.size:=World.block_lt_of_cell? _ _ p0;have hl6:b2<wr.heap.size:=World.block_lt_of_cell? _ _ g0
         have hsame:∀W,Below wr.heap.size wr W->Calls Tryz.prog 19 #[.agg #[.int .i64 x.kind,.string x.text,.int .i64 x.int,.float .f64 x.real,.bool x.flag,.slice ad1 x.list.length ca1],.agg #[.int .i64 x.kind,.string x.text,.int .i64 x.int,.float .f64 x.real,.bool x.flag,.slice ad2 x.list.length ca2]] W fun e w' => e=.returned (.bool true)/\Below W.heap.size W w' := fun W hW=>
           (same03_any x x ad1 x.list.length ca1 ad2 x.list.length ca2 W (hrv1.mono (Aa hW)) (hrv2.mono (Aa hW)) (by omega)).mono fun e w' ⟨q,he,hq,hb⟩=>⟨by rw [he,hq.2 rfl],hb⟩
         clear hcs1 hcs2;replace hx:=Hd hx;replace hsame:=Hd hsame;replace hbx:=Hd hbx;go_upto_region 27 with fail
         refine Af (by kernel_rfl) (by kernel_rfl) ?_;repeat (go_big_quiet_step ((go_at_call 19;(with_reducible refine A4 (hsame.out _ ?_));exact Ag _ _)))
         refine wpQuiet_nil ?_;rintro _ ⟨xq,rfl⟩;have hS:=Ag wr xq;obtain ⟨w7,hw7⟩:∃W,W=grow wr xq:=⟨_,rfl⟩;rw [<-hw7] at hS ⊢;replace hw7:=Hd hw7;have hbx7:=hbx.out.trans (hS.mono hbx.out.size);replace hbx7:=Hd hbx7;clear g0 g1 g2 g3 g4 g5 p0 p1 p2 p3 p4 p5 hS hsame hrv1 hrv2;go_wp2_with fail
         go_roundw
         case rel=>exact ⟨j+1,by first | rfl | go_num,by omega,hbx7.out⟩
         case measure=>simp [intOf];omega
       · have hji:¬(j:Int)<(gs.length:Int):=by omega
         have hbf:=hbe.out.trans (hbx.mono hbe.out.size);replace hbf:=Hd hbf;go_wp2_with fail
         go_ret;exact ⟨rfl,hbf.out⟩
end Go.Proofs.YtagkgfniihiinaaGreatDoor
