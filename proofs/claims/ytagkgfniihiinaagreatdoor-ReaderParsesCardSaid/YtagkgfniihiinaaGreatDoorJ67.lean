/- Bytes that lie in a slice: what is appended, what is read of them; bytes that came in (ReaderWaits: what its walk needs). -/
import Derived.Test.YtagkgfniihiinaaGreatDoorRdA
import Derived.Test.YtagkgfniihiinaaGreatDoorJ78
import Derived.Test.YtagkgfniihiinaaGreatDoorJ69
import Derived.Test.YtagkgfniihiinaaGreatDoorJ42
import Derived.Test.YtagkgfniihiinaaGreatDoorAll03
import Derived.Test.YtagkgfniihiinaaGreatDoorJ83
import Derived.Test.YtagkgfniihiinaaGreatDoorJ75
import Derived.Test.YtagkgfniihiinaaGreatDoorJ21
import Derived.Test.YtagkgfniihiinaaGreatDoorJ81
import Derived.Lib.ItoaNum
import Derived.Lib.ItoaLen
import Derived.Lib.SmallJoins
import Derived.Test.YtagkgfniihiinaaGreatDoorJ49
import Derived.Test.YtagkgfniihiinaaGreatDoorProg
import Derived.Laws.LoneSync
import Derived.Defers
import Derived.Tactics2
import Derived.Lib.OthersKept
import Derived.Deep.WholeRow
import Derived.Deep.LoopGhost
import Derived.Lib.ConvBytes
import Derived.Lib.SlBytesRow
import Derived.Test.YtagkgfniihiinaaGreatDoorJ57
import Derived.ChangeSlices
import Derived.Test.YtagkgfniihiinaaGreatDoorNums
import Derived.ProofKit
import Derived.OpenShut
import Derived.LaidMore
import Derived.LaidSub
import Derived.LaidLaws
import Derived.Lib.LaidTab
import Derived.Stop.LaidErr
import Derived.Lay
import Derived.Test.YtagkgfniihiinaaGreatDoorJ50
import Derived.Shelf.Bytes.SlSmallAll
import Derived.Laws.IdiomStrings
import Derived.Test.YtagkgfniihiinaaGreatDoorJ45
import Derived.Deep.AppendLies
import Derived.Test.YtagkgfniihiinaaGreatDoorJ68
import Derived.Test.YtagkgfniihiinaaGreatDoorJ16
namespace Go.Proofs.YtagkgfniihiinaaGreatDoor
open Go.RowKit Go.Joins
def Byts (w:World) (a:Option Addr) (s:ByteArray):Prop:=s.size=0\/∃b o,a=some ⟨b,o,none⟩/\Lib.Bytes w b o s
theorem Byts.below {w w' : World} {a:Option Addr} {s:ByteArray} (h:Byts w a s) (hb:Below w.heap.size w w'):Byts w' a s:=by
 rcases h with h | ⟨b,o,h1,h2⟩
 · exact .inl h
 · exact .inr ⟨b,o,h1,fun i hi=>Aa hb _ _ (h2 i hi)⟩
theorem open_bytes {H:Type} {enc:TypeId × Value->H} {w:World} {fuel:Nat} {a:Option Addr} {n cap:Nat} {x:DataW H × List MemPlace} (h:DataW.trod enc Tryz.prog w 0 (fun _=>true) true fuel 27 [.slice a n cap]=some x) :
   n<=maxLen/\∃s:ByteArray,s.size=n/\Byts w a s:=by
 rcases Go.Deep.open_slice Tryz.underlying27 h with h0 | ⟨ad,len', cap', m,k,D,Pl,hcs,hb,hl,hm,hmm,hx,hi⟩
 · obtain ⟨h0,_⟩:=h0
   simp at h0;obtain ⟨rfl,rfl,rfl⟩:=h0;exact ⟨Nat.zero_le _,⟨#[]⟩,rfl,.inl rfl⟩
 · simp at hcs
   obtain ⟨rfl,rfl,rfl⟩:=hcs;simp at hmm;subst hmm;refine ⟨Nat.le_trans hl hm,?_⟩;have hC:Tryz.prog.cellsOf 5=1:=by kernel_rfl
   obtain ⟨xs,hxl,hxr⟩:=exists_list (R:=fun i (c:UInt8)=>w.cell? (ad.add i)=some (.int .u8 (c.toNat:Int))) n (fun i him=>by
     obtain ⟨cs', hc,ht'⟩:=hi i (by omega);obtain ⟨z,rfl,_,hz⟩:=DataW.trod_int Tryz.underlying5 ht';rw [hC] at hc;obtain ⟨_,hcl,hat⟩:=World.cells?_some hc;have h0:=hat 0 (by omega);have hz2:0<=z/\z<=255:=by
       have h1:(decide (IntKind.u8.min<=z) && decide (z<=IntKind.u8.max))=true:=hz;rw [Bool.and_eq_true,decide_eq_true_eq,decide_eq_true_eq] at h1;exact h1
     refine ⟨UInt8.ofNat z.toNat,?_⟩;have e:((UInt8.ofNat z.toNat).toNat:Int)=z:=by
       rw [UInt8.toNat_ofNat'];omega
     rw [e];simpa [Addr.add] using h0)
   refine ⟨⟨xs.toArray⟩,by rw [<-hxl];exact size_l _,?_⟩;rcases Nat.eq_zero_or_pos n with h0 | h0
   · exact .inl (by rw [size_l];show xs.length=0;omega)
   · obtain ⟨b,o,rfl⟩:=add_plain (hxr 0 (by omega))
     refine .inr ⟨b,o,rfl,fun i hi=>?_⟩;have hil:i<xs.length:=by rw [size_l] at hi;exact hi
     have:=hxr i hil;rw [add_mk] at this;rw [this];rfl
end Go.Proofs.YtagkgfniihiinaaGreatDoor
namespace Go.Proofs.YtagkgfniihiinaaGreatDoor
open Go.ChangeShapes Go.WideShapes Go.ChangeAt Go.RowKit
theorem star_err : "*" ++ "errors.errorString" = "*errors.errorString" := by decide
theorem row_err (u : TypeId) (h : Tryz.prog.typeName? 3 u = some "*errors.errorString") : u = 246 :=
 typeName_ptr_named (nm := "errors.errorString") (by rw [star_err]; kernel_rfl) (by kernel_rfl) (by decide) u (by rw [star_err]; exact h)
theorem nums_of {W:World} {laid:List (String × DataW Unit)} (h0:laidMetH Tryz.prog laid W) (hp:(laid.all fun x=>x.2.handleName?.isNone)=true)
   (e1 : laid.filter (fun x => x.1 == "internal/strconv.uint64pow10") = [("internal/strconv.uint64pow10", Lib.tabData .u64 Lib.pow10Tab)])
   (e2 : laid.filter (fun x => x.1 == "strconv.ErrSyntax") = [("strconv.ErrSyntax", .iface "*errors.errorString" (.ptr (.agg [.lit (.string [105, 110, 118, 97, 108, 105, 100, 32, 115, 121, 110, 116, 97, 120])])))])
   (e3 : laid.filter (fun x => x.1 == "strconv.ErrRange") = [("strconv.ErrRange", .iface "*errors.errorString" (.ptr (.agg [.lit (.string [118, 97, 108, 117, 101, 32, 111, 117, 116, 32, 111, 102, 32, 114, 97, 110, 103, 101])])))]) : Nums W := by
 rw [MakeChecks.laidMetH_plain _ _ _ hp] at h0
 have h1 := h0.filter (fun x => x.1 == "internal/strconv.uint64pow10")
 have h2 := h0.filter (fun x => x.1 == "strconv.ErrSyntax")
 have h3 := h0.filter (fun x => x.1 == "strconv.ErrRange")
 rw [e1] at h1
 rw [e2] at h2
 rw [e3] at h3
 refine ⟨Lib.tabIs_of_head (g:=5) (t:=223) (e:=60) (n:=20) (by kernel_rfl) (by kernel_rfl) Tryz.underlying223 Tryz.underlying60 (by kernel_rfl) (by kernel_rfl) h1,?_,?_⟩
 · obtain ⟨a,s,hv,_⟩:=laid_sentinel (g:=3) (ti:=106) (tp:=246) (te:=248) h2 glob_syn (by kernel_rfl) Tryz.underlying106 row_err Tryz.underlying246 Tryz.underlying248 rfl rfl Tryz.underlying9 (by kernel_rfl) (by kernel_rfl)
   exact ⟨_,_,hv⟩
 · obtain ⟨a,s,hv,_⟩:=laid_sentinel (g:=4) (ti:=106) (tp:=246) (te:=248) h3 glob_rng (by kernel_rfl) Tryz.underlying106 row_err Tryz.underlying246 Tryz.underlying248 rfl rfl Tryz.underlying9 (by kernel_rfl) (by kernel_rfl)
   exact ⟨_,_,hv⟩
end Go.Proofs.YtagkgfniihiinaaGreatDoor
namespace Go.Proofs.YtagkgfniihiinaaGreatDoor
open Go.RowKit Go.Joins
theorem open_bytesC {H:Type} {enc:TypeId × Value->H} {w:World} {fuel:Nat} {a:Option Addr} {n cap:Nat} {x:DataW H × List MemPlace} (h:DataW.trod enc Tryz.prog w 0 (fun _=>true) true fuel 27 [.slice a n cap]=some x) :
   n<=maxLen/\n<=cap/\∃s:ByteArray,s.size=n/\Byts w a s:=by
 have h1:=open_bytes h
 refine ⟨h1.1,?_,h1.2⟩
 rcases Go.Deep.open_slice Tryz.underlying27 h with h0 | ⟨ad,len', cap', m,k,D,Pl,hcs,hb,hl,hm,hmm,hx,hi⟩
 · obtain ⟨h0,_⟩:=h0
   simp at h0;obtain ⟨rfl,rfl,rfl⟩:=h0;exact Nat.le_refl _
 · simp at hcs
   obtain ⟨rfl,rfl,rfl⟩:=hcs;exact hl
theorem Byts.text {w:World} {a:Option Addr} {s:ByteArray} {c:Nat} (h:Byts w a s):(convert 27 9 (.slice a s.size c)).run Tryz.prog w=.ok (.string s) w:=by
 rcases h with h0 | ⟨b,o,rfl,h2⟩
 · have e:s=ByteArray.empty:=ByteArray.ext (Array.eq_empty_of_size_eq_zero h0)
   rw [h0,e];exact run_convert_bytes_zero w 27 5 Tryz.underlying27 Tryz.underlying5 a c _ Tryz.underlying9
 · have h7:=run_convert_bytes_back (P:=Tryz.prog) w 27 9 5 ⟨b,o,none⟩ c s.data.toList Tryz.underlying27 Tryz.underlying5 Tryz.underlying9 (fun q hq=>by
     rw [Array.length_toList] at hq;rw [add_zr,h2 q hq,Array.getElem_toList];rfl)
   rw [Array.length_toList] at h7;exact h7
theorem parse_byts {rp:Rp} (hrp:RpAll rp) {w:World} {a:Option Addr} {s:ByteArray} {c:Nat} (h:Byts w a s) (hc:s.size<=c) (hbig:s.size<=1000000000) (hN:Nums w) (hY:Lay w) :
   Calls Tryz.prog 24 #[.slice a s.size c] w (D9 (As rp 8 1 s.data.toList) w):=by
 rcases h with h0 | ⟨b,o,rfl,h2⟩
 · have e:s.data.toList=[]:=List.length_eq_zero_iff.1 (by rw [Array.length_toList];exact h0)
   rw [e,h0,(scan_nil (rp:=rp) (lv:=8) (many:=1)).1];exact Fw a c w
 · rcases Nat.eq_zero_or_pos s.size with h0 | h0
   · have e:s.data.toList=[]:=List.length_eq_zero_iff.1 (by rw [Array.length_toList];exact h0)
     rw [e,h0,(scan_nil (rp:=rp) (lv:=8) (many:=1)).1];exact Fw _ c w
   · exact R2.parse_any h2 rfl hc hbig (hrp.env hN hY) (World.block_lt_of_cell? _ _ (h2 0 h0)) (hrp.need 8 1 _)
end Go.Proofs.YtagkgfniihiinaaGreatDoor
namespace Go.Proofs.YtagkgfniihiinaaGreatDoor
open Go.ChangeShapes Go.WideShapes Go.ChangeAt Go.RowKit
theorem floF_of {W:World} {laid:List (String × DataW Unit)} (h0:laidMetH Tryz.prog laid W) (hp:(laid.all fun x=>x.2.handleName?.isNone)=true)
   (e1 : laid.filter (fun x => x.1 == "internal/strconv.uint64pow10") = [("internal/strconv.uint64pow10", Lib.tabData .u64 Lib.pow10Tab)])
   (e2 : laid.filter (fun x => x.1 == "internal/strconv.pow10Tab") = [("internal/strconv.pow10Tab", Go.Pinned.pow10Tab)]) : Flo W := by
 rw [MakeChecks.laidMetH_plain _ _ _ hp] at h0
 have h1 := h0.filter (fun x => x.1 == "internal/strconv.uint64pow10")
 have h2 := h0.filter (fun x => x.1 == "internal/strconv.pow10Tab")
 rw [e1] at h1
 rw [e2] at h2
 exact ⟨pows_of h2,Lib.tabIs_of_head (g:=5) (t:=223) (e:=60) (n:=20) (by kernel_rfl) (by kernel_rfl) Tryz.underlying223 Tryz.underlying60 (by kernel_rfl) (by kernel_rfl) h1⟩
theorem star_errT : "*" ++ "errors.errorString" = "*errors.errorString" := by decide
theorem row_errT (u : TypeId) (h : Tryz.prog.typeName? 3 u = some "*errors.errorString") : u = 246 :=
 typeName_ptr_named (nm := "errors.errorString") (by rw [star_errT]; kernel_rfl) (by kernel_rfl) (by decide) u (by rw [star_errT]; exact h)
theorem glob_rngT : Tryz.prog.globalNamed "strconv.ErrRange" = some 4 := by kernel_rfl
theorem rng_of {W:World} {laid:List (String × DataW Unit)} (h0:laidMetH Tryz.prog laid W) (hp:(laid.all fun x=>x.2.handleName?.isNone)=true)
   (e3 : laid.filter (fun x => x.1 == "strconv.ErrRange") = [("strconv.ErrRange", .iface "*errors.errorString" (.ptr (.agg [.lit (.string [118, 97, 108, 117, 101, 32, 111, 117, 116, 32, 111, 102, 32, 114, 97, 110, 103, 101])])))]) : Rng W := by
 rw [MakeChecks.laidMetH_plain _ _ _ hp] at h0
 have h3 := h0.filter (fun x => x.1 == "strconv.ErrRange")
 rw [e3] at h3
 obtain ⟨a,s,hv,_⟩:=laid_sentinel (g:=4) (ti:=106) (tp:=246) (te:=248) h3 glob_rngT (by kernel_rfl) Tryz.underlying106 row_errT Tryz.underlying246 Tryz.underlying248 rfl rfl Tryz.underlying9 (by kernel_rfl) (by kernel_rfl)
 exact ⟨_,_,(World.var?_cell glob_rngT hv 0).trans rfl⟩
end Go.Proofs.YtagkgfniihiinaaGreatDoor
namespace Go.Proofs.YtagkgfniihiinaaGreatDoor
open Go.RowKit
set_option maxRecDepth 100000 in
set_option maxHeartbeats 6400000 in
theorem scan5_lnone {w:World} {s:ByteArray} {u:Nat} {t:List UInt8} (h0:0<s.size) (hs:s.size<=1000000) (hk:Ac (s[0]'h0)=5\/Ac (s[0]'h0)=12\/Ac (s[0]'h0)=13\/Ac (s[0]'h0)=14) (hl:Au (s.data.toList.drop 1)=.got (t,u)) (hm:¬(t=[45,49]/\(Ac (s[0]'h0)=4\/Ac (s[0]'h0)=5)))
   (hn:numS t 1000=none) (d m:Int):Calls Tryz.prog 47 #[.string s,.int .i64 d,.int .i64 m] w (StopZ 51 w):=by
 have hl0:=hl
 obtain ⟨c,hc⟩:∃c,s[0]'h0=c:=⟨_,rfl⟩
 rw [hc] at hk
 have hkc:=Cx c
 have h0i:(0:Int)<(s.size:Int):=by omega
 have h1i:(1:Int)<=(s.size:Int):=by omega
 obtain ⟨j1,j3,j4⟩:=Bj h0
 obtain ⟨T,hT⟩:∃T,T=s.extract 1 s.size:=⟨_,rfl⟩
 have hTs:T.size<=1000000:=by rw [hT,ByteArray.size_extract];omega
 have hln:=Da hTs
 have hTl:T.data.toList=s.data.toList.drop 1:=by rw [hT];exact C9
 have hul:=(A5 hl).1
 rw [List.length_drop,Array.length_toList] at hul
 have hul9:s.data.size=s.size:=rfl
 obtain ⟨U,hU⟩:∃U,U=u+1:=⟨_,rfl⟩
 have hu1:IntKind.i64.wrap ((u:Int)+1)=(U:Int):=by rw [IntWalk.i64_in _ (by omega)];omega
 try rw [<-hU]
 replace hU:=Hd hU
 rw [hTl,hl] at hln
 unfold lineA at hln
 have hT2:=hT.symm
 dsimp only at hln
 replace hln:=Hd hln
 replace hkc:=Hd hkc
 clear hTl hl hTs hT hul hul9
 rw [hc] at hm
 try rw [hc] at hnn
 try rw [hc] at h14
 obtain ⟨k,hkk⟩:∃k,k=Ac c:=⟨_,rfl⟩
 rw [<-hkk] at hk hkc
 try rw [<-hkk] at hm
 try rw [<-hkk] at hp
 try rw [<-hkk] at hH
 try rw [<-hkk] at hnn
 try rw [<-hkk] at h14
 clear hkk
 obtain ⟨tb,htb⟩:∃tb:ByteArray,tb=⟨t.toArray⟩:=⟨_,rfl⟩
 have htl:tb.data.toList=t:=by rw [htb]
 have htz:tb.size<=1000000:=by
   have h1:=(A5 hl0).2.2;rw [<-htl,Array.length_toList] at h1;have h2:tb.data.size=tb.size:=rfl;omega
 rw [<-htb] at hln
 have hny:((tb.toList == [45,49])=false)\/((tb.toList == [45,49])=true/\((k:Int) == 4)=false/\((k:Int) == 5)=false):=by
   cases h9:(tb.toList == [45,49]) with
   | false=>exact .inl rfl
   | true=>
     refine .inr ⟨rfl,?_⟩;have h8:=eq_of_beq h9;rw [ByteArray.toList_eq,htl] at h8;have h7:¬(k=4\/k=5):=fun e=>hm ⟨h8,e⟩;exact ⟨by rw [beq_eq_false_iff_ne];omega,by rw [beq_eq_false_iff_ne];omega⟩
 clear htb
 replace hny:=Hd hny
 replace hm:=Hd hm
 replace htl:=Hd htl
 replace hl0:=Hd hl0
 try replace hH:=Hd hH
 have hnm:=fun W=>D6 (w:=W) (t:=tb) (most:=1000) htz (by decide)
 rw [htl.out] at hnm
 unfold numI at hnm
 rw [hn] at hnm
 dsimp only at hnm
 have hls:=Ba (k:Int)
 have hkl:Al (k:Int)=true:=by unfold Al;rw [decide_eq_true_iff];omega
 rw [hkl] at hls
 replace hls:=Hd hls
 replace hnm:=Hd hnm
 have h2:=Two.start w 0 ⟨#[]⟩ 0 0 false
 obtain ⟨W2,hW2⟩:∃W,W=(w.alloc (.cells #[.int .i64 0,.string ⟨#[]⟩,.int .i64 0,.float .f64 0,.bool false,.slice none 0 0] 26)).alloc (.cells #[.int .i64 0,.string ⟨#[]⟩,.int .i64 0,.float .f64 0,.bool false,.slice none 0 0] 26):=⟨_,rfl⟩
 rw [<-hW2] at h2
 replace hW2:=Hd hW2
 replace h2:=Hd h2
 go_enter Tryz.func47,Tryz.ntmps47
 go_upto_region 2 with fail
 rw [<-hW2.out]
 clear hW2
 go_wp2_with fail
 refine (hkc.out _).mono ?_
 rintro e w3 ⟨rfl,hww⟩
 have h3:=h2.out
 rw [<-hww] at h3
 clear h2 hww
 go_wp2_with fail
 refine (hln.out _).mono ?_
 rintro e w3 ⟨rfl,hww⟩
 rw [<-hww] at h3
 clear hww
 replace h3:=Hd h3
 go_upto_region 11 with fail
 go_cut [59] from 51 to 59 (fun s5 wx=>s5=.bool false/\wx=w3)
 case first=>
   rcases hny.out with y1 | ⟨y1,c4,c5⟩
   · go_wp2_with fail
     go_meet
     exact ⟨rfl,rfl⟩
   · go_wp2_with fail
     go_meet
     exact ⟨rfl,rfl⟩
 obtain ⟨rfl,hww⟩:=hcut
 obtain rfl:=hww.symm
 clear hww
 clear hny
 go_upto_region 13 with fail
 go_cut [72] from 64 to 72 (fun s5 wx=>s5=.bool false/\wx=w3)
 case first=>
   have c4:((k:Int) == 4)=false:=by rw [beq_eq_false_iff_ne];omega
   have c10:((k:Int) == 10)=false:=by rw [beq_eq_false_iff_ne];omega
   have c11:((k:Int) == 11)=false:=by rw [beq_eq_false_iff_ne];omega
   go_wp2_with fail
   go_meet
   exact ⟨rfl,rfl⟩
 obtain ⟨rfl,hww⟩:=hcut
 obtain rfl:=hww.symm
 clear hww
 go_wp2_with fail
 refine (hls.out _).mono ?_
 rintro e w4 ⟨rfl,hww⟩
 obtain rfl:=hww.symm
 clear hww hls
 go_wp2_with fail
 refine (hnm.out _).mono ?_
 rintro e w4 ⟨rfl,hb⟩
 have h4:=h3.out.move hb
 clear h3 hb hnm
 obtain ⟨w3,hw3⟩:∃w3,w3=w4:=⟨_,rfl⟩
 rw [<-hw3] at h4 ⊢
 clear hw3
 have h3:=h4
 clear h4
 replace h3:=Hd h3
 replace hk:=Hd hk
 have h3:=h3.out
 have hrR:(w3.setCells w.heap.size 0 [.int .i64 0,.string (⟨#[]⟩:ByteArray),.int .i64 0,.float .f64 0,.bool false,.slice none 0 0]).rangeAt w.heap.size 0 [.int .i64 0,.string (⟨#[]⟩:ByteArray),.int .i64 0,.float .f64 0,.bool false,.slice none 0 0]:=
   World.rangeAt_setCells_same _ _ _ _ (Ae (n:=6) h3.zero h3.blk rfl)
 have htC:=Ae (n:=6) h3.zero h3.blk rfl
 have hfu:=h3.full
 have hbl:Below w.heap.size w (w3.setCells w.heap.size 0 [.int .i64 0,.string (⟨#[]⟩:ByteArray),.int .i64 0,.float .f64 0,.bool false,.slice none 0 0]):=
   h3.below.trans ((Fr.setCells (S:=fun k=>k=w.heap.size) (fun _=>rfl) _ _ _ (Fr.refl _ w3)).below h3.below.size (fun i hi h=>by omega))
 replace hrR:=Hd hrR
 replace htC:=Hd htC
 replace hfu:=Hd hfu
 replace hbl:=Hd hbl
 replace h3:=Hd h3
 go_wp2_with (first
   | (refine wpList_load_mid rfl 26 _ rfl (w.heap.size+1) 0 rfl _ _ hfu.out Tryz.underlying26 rfl Ab ?_)
   | (refine wpList_store_mid rfl 26 _ _ rfl w.heap.size 0 _ rfl rfl htC.out Ab (one6 _ _ _ _ _ _ _ _) ?_))
 refine bodyPost_ret (Ak (v:=.agg #[.int .i64 0,.string (⟨#[]⟩:ByteArray),.int .i64 0,.float .f64 0,.bool false,.slice none 0 0]) rfl rfl (run_loadVar_mid (P:=Tryz.prog) _ _ 0 26 _ _ hrR.out Tryz.underlying26 rfl Ab)) rfl ?_
 exact ⟨0,0,rfl,hbl.out⟩
set_option maxRecDepth 100000 in
set_option maxHeartbeats 6400000 in
theorem scan5_lbad {w:World} {s:ByteArray} {u nn:Nat} {t:List UInt8} (h0:0<s.size) (hs:s.size<=1000000) (hk:Ac (s[0]'h0)=5\/Ac (s[0]'h0)=12\/Ac (s[0]'h0)=13\/Ac (s[0]'h0)=14) (hl:Au (s.data.toList.drop 1)=.got (t,u)) (hm:¬(t=[45,49]/\(Ac (s[0]'h0)=4\/Ac (s[0]'h0)=5)))
   {n many d:Nat} (hn:numS t 1000=some n) (hnn:nn=if Ac (s[0]'h0)=12 then 2 * n else n) (hmn:many<=1000) (hd:d<=8) (h14:1000<many+nn\/8<=d\/(Ac (s[0]'h0)=14/\(nn=0\/0<d))) :
   Calls Tryz.prog 47 #[.string s,.int .i64 (d:Int),.int .i64 (many:Int)] w (StopZ 51 w):=by
 have hn4:=numS_leG hn
 have hn2:nn<=2000:=by rw [hnn];split<;>omega
 have hl0:=hl
 obtain ⟨c,hc⟩:∃c,s[0]'h0=c:=⟨_,rfl⟩
 rw [hc] at hk
 have hkc:=Cx c
 have h0i:(0:Int)<(s.size:Int):=by omega
 have h1i:(1:Int)<=(s.size:Int):=by omega
 obtain ⟨j1,j3,j4⟩:=Bj h0
 obtain ⟨T,hT⟩:∃T,T=s.extract 1 s.size:=⟨_,rfl⟩
 have hTs:T.size<=1000000:=by rw [hT,ByteArray.size_extract];omega
 have hln:=Da hTs
 have hTl:T.data.toList=s.data.toList.drop 1:=by rw [hT];exact C9
 have hul:=(A5 hl).1
 rw [List.length_drop,Array.length_toList] at hul
 have hul9:s.data.size=s.size:=rfl
 obtain ⟨U,hU⟩:∃U,U=u+1:=⟨_,rfl⟩
 have hu1:IntKind.i64.wrap ((u:Int)+1)=(U:Int):=by rw [IntWalk.i64_in _ (by omega)];omega
 try rw [<-hU]
 replace hU:=Hd hU
 rw [hTl,hl] at hln
 unfold lineA at hln
 have hT2:=hT.symm
 dsimp only at hln
 replace hln:=Hd hln
 replace hkc:=Hd hkc
 clear hTl hl hTs hT hul hul9
 rw [hc] at hm
 try rw [hc] at hnn
 try rw [hc] at h14
 obtain ⟨k,hkk⟩:∃k,k=Ac c:=⟨_,rfl⟩
 rw [<-hkk] at hk hkc
 try rw [<-hkk] at hm
 try rw [<-hkk] at hp
 try rw [<-hkk] at hH
 try rw [<-hkk] at hnn
 try rw [<-hkk] at h14
 clear hkk
 obtain ⟨tb,htb⟩:∃tb:ByteArray,tb=⟨t.toArray⟩:=⟨_,rfl⟩
 have htl:tb.data.toList=t:=by rw [htb]
 have htz:tb.size<=1000000:=by
   have h1:=(A5 hl0).2.2;rw [<-htl,Array.length_toList] at h1;have h2:tb.data.size=tb.size:=rfl;omega
 rw [<-htb] at hln
 have hny:((tb.toList == [45,49])=false)\/((tb.toList == [45,49])=true/\((k:Int) == 4)=false/\((k:Int) == 5)=false):=by
   cases h9:(tb.toList == [45,49]) with
   | false=>exact .inl rfl
   | true=>
     refine .inr ⟨rfl,?_⟩;have h8:=eq_of_beq h9;rw [ByteArray.toList_eq,htl] at h8;have h7:¬(k=4\/k=5):=fun e=>hm ⟨h8,e⟩;exact ⟨by rw [beq_eq_false_iff_ne];omega,by rw [beq_eq_false_iff_ne];omega⟩
 clear htb
 replace hny:=Hd hny
 replace hm:=Hd hm
 replace htl:=Hd htl
 replace hl0:=Hd hl0
 try replace hH:=Hd hH
 have hnm:=fun W=>D6 (w:=W) (t:=tb) (most:=1000) htz (by decide)
 rw [htl.out] at hnm
 unfold numI at hnm
 rw [hn] at hnm
 dsimp only at hnm
 have hls:=Ba (k:Int)
 have hkl:Al (k:Int)=true:=by unfold Al;rw [decide_eq_true_iff];omega
 rw [hkl] at hls
 replace hls:=Hd hls
 replace hnm:=Hd hnm
 have h2:=Two.start w 0 ⟨#[]⟩ 0 0 false
 obtain ⟨W2,hW2⟩:∃W,W=(w.alloc (.cells #[.int .i64 0,.string ⟨#[]⟩,.int .i64 0,.float .f64 0,.bool false,.slice none 0 0] 26)).alloc (.cells #[.int .i64 0,.string ⟨#[]⟩,.int .i64 0,.float .f64 0,.bool false,.slice none 0 0] 26):=⟨_,rfl⟩
 rw [<-hW2] at h2
 replace hW2:=Hd hW2
 replace h2:=Hd h2
 go_enter Tryz.func47,Tryz.ntmps47
 go_upto_region 2 with fail
 rw [<-hW2.out]
 clear hW2
 go_wp2_with fail
 refine (hkc.out _).mono ?_
 rintro e w3 ⟨rfl,hww⟩
 have h3:=h2.out
 rw [<-hww] at h3
 clear h2 hww
 go_wp2_with fail
 refine (hln.out _).mono ?_
 rintro e w3 ⟨rfl,hww⟩
 rw [<-hww] at h3
 clear hww
 replace h3:=Hd h3
 go_upto_region 11 with fail
 go_cut [59] from 51 to 59 (fun s5 wx=>s5=.bool false/\wx=w3)
 case first=>
   rcases hny.out with y1 | ⟨y1,c4,c5⟩
   · go_wp2_with fail
     go_meet
     exact ⟨rfl,rfl⟩
   · go_wp2_with fail
     go_meet
     exact ⟨rfl,rfl⟩
 obtain ⟨rfl,hww⟩:=hcut
 obtain rfl:=hww.symm
 clear hww
 clear hny
 go_upto_region 13 with fail
 go_cut [72] from 64 to 72 (fun s5 wx=>s5=.bool false/\wx=w3)
 case first=>
   have c4:((k:Int) == 4)=false:=by rw [beq_eq_false_iff_ne];omega
   have c10:((k:Int) == 10)=false:=by rw [beq_eq_false_iff_ne];omega
   have c11:((k:Int) == 11)=false:=by rw [beq_eq_false_iff_ne];omega
   go_wp2_with fail
   go_meet
   exact ⟨rfl,rfl⟩
 obtain ⟨rfl,hww⟩:=hcut
 obtain rfl:=hww.symm
 clear hww
 go_wp2_with fail
 refine (hls.out _).mono ?_
 rintro e w4 ⟨rfl,hww⟩
 obtain rfl:=hww.symm
 clear hww hls
 go_wp2_with fail
 refine (hnm.out _).mono ?_
 rintro e w4 ⟨rfl,hb⟩
 have h4:=h3.out.move hb
 clear h3 hb hnm
 obtain ⟨w3,hw3⟩:∃w3,w3=w4:=⟨_,rfl⟩
 rw [<-hw3] at h4 ⊢
 clear hw3
 have h3:=h4
 clear h4
 replace h3:=Hd h3
 have hn0:¬(n:Int)<0:=by omega
 replace hnn:=Hd hnn
 obtain ⟨p12,hp12⟩:∃p:Bool,p=decide (k=12):=⟨_,rfl⟩
 replace hp12:=Hd hp12
 go_upto_region 30 with fail
 go_cut [147] from 147 to 147 (fun s5 wx=>s5=.bool p12/\wx=w3)
 case first=>
   rcases hk with rfl | rfl | rfl | rfl
   · obtain rfl:p12=false:=hp12.out
     go_wp2_with fail
     go_meet
     exact ⟨rfl,rfl⟩
   · obtain rfl:p12=true:=hp12.out
     go_wp2_with fail
     go_meet
     exact ⟨rfl,rfl⟩
   · obtain rfl:p12=false:=hp12.out
     go_wp2_with fail
     go_meet
     exact ⟨rfl,rfl⟩
   · obtain rfl:p12=false:=hp12.out
     go_wp2_with fail
     go_meet
     exact ⟨rfl,rfl⟩
 obtain ⟨rfl,hww⟩:=hcut
 obtain rfl:=hww.symm
 clear hww
 go_upto_if 147 with fail
 go_cut [20] from 20 to 149 (fun s5 wx=>s5=.int .i64 (nn:Int)/\wx=w3)
 case first=>
   cases p12 with
   | false=>
     have h1:¬k=12:=of_decide_eq_false hp12.out.symm;have hnn9:=hnn.out;rw [if_neg h1] at hnn9;subst hnn9;go_wp2_with fail
     go_meet
     exact ⟨rfl,rfl⟩
   | true=>
     have h1:k=12:=of_decide_eq_true hp12.out.symm;have hnn9:=hnn.out;rw [if_pos h1] at hnn9;have hw2:IntKind.i64.wrap (2 * (n:Int))=(nn:Int):=by rw [IntWalk.i64_in _ (by omega)];omega
     replace hnn9:=Hd hnn9;go_wp2_with fail
     go_meet
     exact ⟨by first | rfl | (rw [hw2]) | (simp [hw2]),rfl⟩
 obtain ⟨rfl,hww⟩:=hcut
 obtain rfl:=hww.symm
 clear hww
 replace hk:=Hd hk
 obtain ⟨M,hM⟩:∃M,M=many+nn:=⟨_,rfl⟩
 have hw3:IntKind.i64.wrap ((many:Int)+(nn:Int))=(M:Int):=by rw [IntWalk.i64_in _ (by omega)];omega
 replace hM:=Hd hM
 go_upto_region 32 with fail
 go_upto_region 33 with fail
 go_cut [170] from 154 to 170 (fun s5 wx=>s5=.bool true/\wx=w3)
 case first=>
   by_cases q1:1000<M
   · have q1i:(1000:Int)<(M:Int):=by omega
     by_cases q2:8<=d
     · have q2i:(8:Int)<=(d:Int):=by omega
       go_wp2_with fail
       go_meet
       exact ⟨rfl,rfl⟩
     · have q2i:¬(8:Int)<=(d:Int):=by omega
       go_wp2_with fail
       go_meet
       exact ⟨rfl,rfl⟩
   · have q1i:¬(1000:Int)<(M:Int):=by omega
     by_cases q2:8<=d
     · have q2i:(8:Int)<=(d:Int):=by omega
       go_wp2_with fail
       go_meet
       exact ⟨rfl,rfl⟩
     · have q2i:¬(8:Int)<=(d:Int):=by omega
       obtain ⟨h5,h6⟩:k=14/\(nn=0\/0<d):=by have hMM:=hM.out;omega
       subst h5;by_cases q3:nn=0
       · have z1:((nn:Int) == 0)=true:=by rw [q3];rfl
         replace q3:=Hd q3;go_wp2_with fail
         go_meet
         exact ⟨rfl,rfl⟩
       · have z1:((nn:Int) == 0)=false:=by rw [beq_eq_false_iff_ne];omega
         have z2:(0:Int)<(d:Int):=by omega
         have z3:0<d:=by omega
         go_wp2_with fail
         go_meet
         exact ⟨rfl,rfl⟩
 obtain ⟨rfl,hww⟩:=hcut
 obtain rfl:=hww.symm
 clear hww
 have h3:=h3.out
 have hrR:(w3.setCells w.heap.size 0 [.int .i64 0,.string (⟨#[]⟩:ByteArray),.int .i64 0,.float .f64 0,.bool false,.slice none 0 0]).rangeAt w.heap.size 0 [.int .i64 0,.string (⟨#[]⟩:ByteArray),.int .i64 0,.float .f64 0,.bool false,.slice none 0 0]:=
   World.rangeAt_setCells_same _ _ _ _ (Ae (n:=6) h3.zero h3.blk rfl)
 have htC:=Ae (n:=6) h3.zero h3.blk rfl
 have hfu:=h3.full
 have hbl:Below w.heap.size w (w3.setCells w.heap.size 0 [.int .i64 0,.string (⟨#[]⟩:ByteArray),.int .i64 0,.float .f64 0,.bool false,.slice none 0 0]):=
   h3.below.trans ((Fr.setCells (S:=fun k=>k=w.heap.size) (fun _=>rfl) _ _ _ (Fr.refl _ w3)).below h3.below.size (fun i hi h=>by omega))
 replace hrR:=Hd hrR
 replace htC:=Hd htC
 replace hfu:=Hd hfu
 replace hbl:=Hd hbl
 replace h3:=Hd h3
 go_wp2_with (first
   | (refine wpList_load_mid rfl 26 _ rfl (w.heap.size+1) 0 rfl _ _ hfu.out Tryz.underlying26 rfl Ab ?_)
   | (refine wpList_store_mid rfl 26 _ _ rfl w.heap.size 0 _ rfl rfl htC.out Ab (one6 _ _ _ _ _ _ _ _) ?_))
 refine bodyPost_ret (Ak (v:=.agg #[.int .i64 0,.string (⟨#[]⟩:ByteArray),.int .i64 0,.float .f64 0,.bool false,.slice none 0 0]) rfl rfl (run_loadVar_mid (P:=Tryz.prog) _ _ 0 26 _ _ hrR.out Tryz.underlying26 rfl Ab)) rfl ?_
 exact ⟨0,0,rfl,hbl.out⟩
theorem cons_of {s:ByteArray} (h0:0<s.size):s.data.toList=(s[0]'h0) :: s.data.toList.drop 1:=by
 obtain ⟨hj,e⟩:=Ga h0;rw [<-e,<-List.drop_eq_getElem_cons hj,List.drop_zero]
theorem headQ_scQ {rp:Rp} (hrp:RpAll rp) {s:ByteArray} {H:Head} {many:Nat} {w:World} {e:Ending} {w' : World} (hh:H=A0 rp s.data.toList) (h:HeadQ H (many:Int) w e w') :
   ScQ (match H with | .stop q=>.stop q | .leaf v u=>.got (v,u,many) | .list _ _ _=>.stop 51) w e w' := by
 cases H with
 | stop q=>exact h
 | leaf v u=>
   obtain ⟨h1,h2⟩:=h;have hg:=Fz (rp:=rp) (fun t r h=>hrp.lt t r h) hh.symm;obtain ⟨k,t,i,r,f,l⟩:=v;have hl:l=[]:=hg.list;subst hl;exact ⟨none,0,h1,RV.leaf _ _ _ _ _ _ _ _,h2⟩
 | list _ _ _=>exact h.elim
theorem p02_any {rp:Rp} (hrp:RpAll rp) {t:List UInt8} {w:World} (hY:Lay w):Calls Tryz.prog 92 #[.string ⟨t.toArray⟩] w fun e w' => e=ParE (rp t)/\Below w.heap.size w w' := ref_all (hrp.is t) hY
theorem scan5_step {rp:Rp} (hrp:RpAll rp) {s:ByteArray} {many d:Nat} {w:World} {X:Nat->Nat->Nat->Out (V × Nat × Nat)} (hs:s.size<=1000000) (hY:Lay w)
   (hX:∀(h0:0<s.size) (t:List UInt8) (u n:Nat),(Ac (s[0]'h0)=5\/Ac (s[0]'h0)=12\/Ac (s[0]'h0)=13\/Ac (s[0]'h0)=14)->Au (s.data.toList.drop 1)=.got (t,u)->¬(t=[45,49]/\(Ac (s[0]'h0)=4\/Ac (s[0]'h0)=5))->numS t 1000=some n ->
     Calls Tryz.prog 47 #[.string s,.int .i64 (d:Int),.int .i64 (many:Int)] w (ScQ (X (Ac (s[0]'h0)) (if Ac (s[0]'h0)=12 then 2 * n else n) (1+u)) w)) :
   Calls Tryz.prog 47 #[.string s,.int .i64 (d:Int),.int .i64 (many:Int)] w (ScQ (match A0 rp s.data.toList with | .stop q=>.stop q | .leaf v u=>.got (v,u,many) | .list kd n u=>X kd n u) w):=by
 have fin:∀H,H=A0 rp s.data.toList->(∀kd n u,H≠.list kd n u)->Calls Tryz.prog 47 #[.string s,.int .i64 (d:Int),.int .i64 (many:Int)] w (HeadQ H (many:Int) w) ->
     Calls Tryz.prog 47 #[.string s,.int .i64 (d:Int),.int .i64 (many:Int)] w (ScQ (match A0 rp s.data.toList with | .stop q=>.stop q | .leaf v u=>.got (v,u,many) | .list kd n u=>X kd n u) w):=fun H hH hno h=>by
   refine h.mono fun e w' he=>?_
   have:=headQ_scQ hrp hH he
   rw [<-hH]
   cases H with
   | stop q=>exact this
   | leaf v u=>exact this
   | list kd n u=>exact absurd rfl (hno kd n u)
 rcases Nat.eq_zero_or_pos s.size with hz | h0
 · have hse:s=⟨#[]⟩:=ByteArray.ext (Array.eq_empty_of_size_eq_zero hz)
   subst hse;exact fin (.stop 0) rfl (fun _ _ _ h=>by cases h) (scan5_nil _ _)
 have hcl:=cons_of h0
 obtain ⟨c,hc⟩:∃c,c=s[0]'h0:=⟨_,rfl⟩
 obtain ⟨L,hL⟩:∃L,L=s.data.toList.drop 1:=⟨_,rfl⟩
 have hcl2:=hcl
 rw [<-hc,<-hL] at hcl2
 have hhd:∀H,A0 rp (c :: L)=H->H=A0 rp s.data.toList:=fun H h=>by rw [hcl2];exact h.symm
 by_cases hk0:Ac c=0
 · refine fin (.stop 51) (hhd _ ?_) (fun _ _ _ h=>by cases h) (scan5_kind h0 (by rw [<-hc];exact hk0) _ _)
   unfold A0;dsimp only;rw [if_pos hk0]
 cases hl:Au L with
 | stop e=>
   refine fin (.stop e) (hhd _ ?_) (fun _ _ _ h=>by cases h) (scan5_line h0 hs (by rw [<-hc];exact hk0) (by rw [<-hL];exact hl) _ _);unfold A0;dsimp only;rw [if_neg hk0,hl]
 | got p=>
   obtain ⟨t,u⟩:=p;have hl2:Au (s.data.toList.drop 1)=.got (t,u):=by rw [<-hL];exact hl
   by_cases hm:t=[45,49]/\(Ac c=4\/Ac c=5)
   · obtain ⟨ht,hk⟩:=hm
     subst ht;have:=scan5_null (w:=w) h0 hs (by rw [<-hc];exact hk) hl2 (d:Int) (many:Int);refine fin (.leaf (Am 6 ⟨#[]⟩ 0 0 false) (u+1)) (hhd _ ?_) (fun _ _ _ h=>by cases h) this;unfold A0;dsimp only;rw [if_neg hk0,hl];dsimp only;rw [if_pos ⟨rfl,hk⟩,Nat.add_comm]
   have hm2:¬(t=[45,49]/\(Ac (s[0]'h0)=4\/Ac (s[0]'h0)=5)):=by rw [<-hc];exact hm
   by_cases hk:Ac c=4\/Ac c=10\/Ac c=11
   · obtain ⟨H,hH⟩:∃H,H=A0 rp (c :: L):=⟨_,rfl⟩
     have hH2:=hH;unfold A0 at hH;dsimp only at hH;rw [if_neg hk0,hl] at hH;dsimp only at hH;rw [if_neg hm,if_pos hk] at hH;have:=scan5_text (w:=w) h0 hs (by rw [<-hc];exact hk) hl2 hm2 (H:=H) (by rw [<-hL,<-hc];exact hH) (d:Int) (many:Int);refine fin H (hhd _ hH2.symm) (fun kd n u e=>?_) this;rw [e] at hH;split at hH
     · cases hH
     · split at hH
       · cases hH
       · split at hH<;>cases hH
   by_cases hk2:Ac c=5\/Ac c=12\/Ac c=13\/Ac c=14
   · have hk29:Ac (s[0]'h0)=5\/Ac (s[0]'h0)=12\/Ac (s[0]'h0)=13\/Ac (s[0]'h0)=14:=by rw [<-hc];exact hk2
     cases hn:numS t 1000 with
     | none=>
       refine fin (.stop 51) (hhd _ ?_) (fun _ _ _ h=>by cases h) (scan5_lnone h0 hs hk29 hl2 hm2 hn _ _);unfold A0;dsimp only;rw [if_neg hk0,hl];dsimp only;rw [if_neg hm,if_neg hk];by_cases hk3:Ac c=5\/Ac c=13\/Ac c=14
       · rw [if_pos hk3,hn]
       · rw [if_neg hk3,if_pos (by omega),hn]
     | some n=>
       have hh:A0 rp (c :: L)=.list (Ac c) (if Ac c=12 then 2 * n else n) (1+u):=by
         unfold A0;dsimp only;rw [if_neg hk0,hl];dsimp only;rw [if_neg hm,if_neg hk];by_cases hk3:Ac c=5\/Ac c=13\/Ac c=14
         · rw [if_pos hk3,hn,if_neg (by omega)]
         · rw [if_neg hk3,if_pos (by omega),hn,if_pos (by omega)]
           dsimp only;rw [show Ac c=12 by omega]
       have:=hX h0 t u n hk29 hl2 hm2 hn;rw [hcl2,hh];rw [<-hc] at this;exact this
   · have hkl:=kindR_le c
     obtain ⟨H,hH⟩:∃H,H=A0 rp (c :: L):=⟨_,rfl⟩;have hH2:=hH;unfold A0 at hH;dsimp only at hH;rw [if_neg hk0,hl] at hH;dsimp only at hH;rw [if_neg hm,if_neg hk,if_neg (by omega),if_neg (by omega)] at hH;have:=scan5_single (w:=w) (o:=rp t) h0 hs (by rw [<-hc];omega) hl2 (fun _ W hW=>p02_any hrp (hY.below hW)) (H:=H) (by rw [<-hc];exact hH) (d:Int) (many:Int);refine fin H (hhd _ hH2.symm) (fun kd n u e=>?_) this;rw [e] at hH;split at hH
     · cases hH
     · split at hH<;>cases hH
theorem scan5_any {rp:Rp} (hrp:RpAll rp):∀(lv:Nat),lv<=8->∀(s:ByteArray) (many:Nat) (w:World),s.size<=1000000->many<=1000->Lay w ->
   Calls Tryz.prog 47 #[.string s,.int .i64 ((8 - lv:Nat):Int),.int .i64 (many:Int)] w (ScQ (As rp lv many s.data.toList) w):=by
 intro lv
 induction lv with
 | zero=>
   intro _ s many w hs hm hY;have:=scan5_step hrp (s:=s) (many:=many) (d:=8) (w:=w) (X:=fun _ _ _=>.stop 51) hs hY (fun h0 t u n hk hl hm2 hn=>scan5_lbad h0 hs hk hl hm2 hn rfl hm (Nat.le_refl _) (.inr (.inl (Nat.le_refl _))));unfold As;exact this
 | succ lv ih=>
   intro hlv s many w hs hm hY
   have:=scan5_step hrp (s:=s) (many:=many) (d:=8 - (lv+1)) (w:=w) (X:=fun kd n u=>if 1000<many+n\/(kd=14/\(n=0\/lv<7)) then .stop 51 else match A9 (As rp lv) n (many+n) (s.data.toList.drop u) with
       | .stop e=>.stop e
       | .got (l,u2,m2)=>.got (.mk kd ⟨#[]⟩ 0 0 false l,u+u2,m2)) hs hY (fun h0 t u n hk hl hm2 hn=>by
     obtain ⟨nn,hnn⟩:∃nn,nn=if Ac (s[0]'h0)=12 then 2 * n else n:=⟨_,rfl⟩
     rw [<-hnn]
     by_cases hb:1000<many+nn\/(Ac (s[0]'h0)=14/\(nn=0\/lv<7))
     · rw [if_pos hb]
       exact scan5_lbad h0 hs hk hl hm2 hn hnn hm (by omega) (by omega)
     · rw [if_neg hb]
       refine R2.scan5_list (rp:=rp) h0 hs hk hl hm2 hn hnn (by omega) (by omega) (by omega) (f:=As rp lv) (fun W s' m' hW hs' hm' => ?_) (fun m L v u m' h=>?_) ?_
       · have:=ih (by omega) s' m' W hs' hm' (hY.below hW)
         rw [show ((8 - (lv+1):Nat):Int)+1=((8 - lv:Nat):Int) by omega];exact this
       · have hg:=Fh (rp:=rp) (fun t r h=>hrp.lt t r h) lv (by omega) m L v u m' h
         exact ⟨hg.len,hg.most⟩
       · rw [List.drop_drop]
         cases A9 (As rp lv) nn (many+nn) (s.data.toList.drop (1+u)) with
         | stop e=>rfl
         | got p=>rfl)
   unfold As;exact this
theorem Fo {fn:Func} {p u u2:Tmp} {ty:TypeId} {tmps:Array Value} {P:Program} {w:World} {ad:Addr} {v:Value} (h:fn.results=#[.cell p ty,.tmp u,.tmp u2]) (hp:tmps.getD p undef=.pointer (some ad)) (hl:(loadVar ty ad).run P w=.ok v w) :
   (results fn tmps).run P w=.ok (.tuple #[v,tmps.getD u undef,tmps.getD u2 undef]) w:=by
 simp only [results,h]
 simp [Sem.run_bind,Result.andThen,asAddr,hl,show tmps[p]?.getD undef=.pointer (some ad) by simpa using hp]
set_option maxRecDepth 100000 in
set_option maxHeartbeats 3200000 in
theorem parse5_any {rp:Rp} (hrp:RpAll rp) {s:ByteArray} {w:World} (hs:s.size<=1000000) (hY:Lay w):Calls Tryz.prog 29 #[.string s] w (D9 (As rp 8 1 s.data.toList) w):=by
 obtain ⟨W3,hW3⟩:∃W,W=w.alloc (.cells #[.int .i64 0,.string ⟨#[]⟩,.int .i64 0,.float .f64 0,.bool false,.slice none 0 0] 26):=⟨_,rfl⟩;have hb3:Below w.heap.size w W3:=by rw [hW3];exact (Below.refl _ _).alloc (Nat.le_refl _) _
 have hr3:W3.rangeAt w.heap.size 0 [.int .i64 0,.string ⟨#[]⟩,.int .i64 0,.float .f64 0,.bool false,.slice none 0 0]:=by
   rw [hW3];intro j y hj;rw [Nat.zero_add,World.cell?_alloc_new];simpa using hj
 have hk3:Blk W3 w.heap.size:=by rw [hW3];exact Blk.new _ _ _
 have hsc:=scan5_any hrp 8 (Nat.le_refl _) s 1 W3 hs (by decide) (hY.below hb3);replace hb3:=Hd hb3;replace hr3:=Hd hr3;replace hk3:=Hd hk3;replace hW3:=Hd hW3;cases ho:As rp 8 1 s.data.toList with
 | stop q=>
   rw [ho] at hsc;have hq:=(scan_ext (rp:=rp) (fun t r h=>hrp.lt t r h) 8 (Nat.le_refl _) 1 s.data.toList []).2.2 q ho;replace hsc:Calls Tryz.prog 47 #[.string s,.int .i64 0,.int .i64 1] W3 (StopZ q W3):=hsc;clear ho;replace hsc:=Hd hsc;rcases hq with rfl | rfl
   all_goals
     go_enter Tryz.func29,Tryz.ntmps29
     go_upto_region 1 with fail
     rw [<-hW3.out]
     go_wp2_with fail
     refine hsc.out.mono ?_
     rintro e w4 ⟨X,Y,rfl,hb4⟩
     clear hsc
     have hth:=A8 w4 26
     have hnv:=Ci w4 26 [.int .i64 0,.string (⟨#[]⟩:ByteArray),.int .i64 0,.float .f64 0,.bool false,.slice none 0 0] rfl
     replace hth:=Hd hth
     replace hnv:=Hd hnv
     have tok1:True:=trivial
     go_upto_region 2 with (have _t:=tok1;refine wpList_store_mid rfl 26 _ _ rfl w4.heap.size 0 _ rfl rfl hth.out Ab (one6 _ _ _ _ _ _ _ _) ?_;clear tok1 _t)
     generalize (w4.alloc (.cells #[Value.int .i64 0,.string ⟨#[]⟩,.int .i64 0,.float .f64 0,.bool false,.slice none 0 0] 26)).setCells w4.heap.size 0 [Value.int .i64 0,.string (⟨#[]⟩:ByteArray),.int .i64 0,.float .f64 0,.bool false,.slice none 0 0]=W6 at hnv ⊢
     obtain ⟨hb6,hr6,_⟩:=hnv.out
     obtain ⟨G,hG⟩:∃G,G=w4.heap.size:=⟨_,rfl⟩
     rw [<-hG] at hr6 ⊢
     replace hG:=Hd hG
     clear hnv hth
     have hb36:=hb4.trans (hb6.mono hb4.size)
     have htC:=Ae (n:=6) (Cz hb36 hr3.out) (hk3.out.of_block (hb36.block _ hk3.out.lt)) rfl
     have hfin:Fr (fun k=>k=w.heap.size) W6 (W6.setCells w.heap.size 0 [.int .i64 0,.string (⟨#[]⟩:ByteArray),.int .i64 0,.float .f64 0,.bool false,.slice none 0 0]):=Fr.setCells (S:=fun k=>k=w.heap.size) (fun _=>rfl) _ _ _ (Fr.refl _ W6)
     have hbw:=hb3.out.trans (hb36.mono hb3.out.size)
     have hbe:=hbw.trans (hfin.below hbw.size (fun i hi e=>by omega))
     have hrR:(W6.setCells w.heap.size 0 [.int .i64 0,.string (⟨#[]⟩:ByteArray),.int .i64 0,.float .f64 0,.bool false,.slice none 0 0]).rangeAt w.heap.size 0 [.int .i64 0,.string (⟨#[]⟩:ByteArray),.int .i64 0,.float .f64 0,.bool false,.slice none 0 0]:=
       World.rangeAt_setCells_same _ _ _ _ htC
     have hb46:=hb6
     replace hrR:=Hd hrR
     replace htC:=Hd htC
     replace hr6:=Hd hr6
     replace hfin:=Hd hfin
     replace hbe:=Hd hbe
     replace hbw:=Hd hbw
     replace hb46:=Hd hb46
     clear hb6 hb36
     go_wp2_with (first
       | (refine wpList_load_mid rfl 26 _ rfl G 0 rfl _ _ hr6.out Tryz.underlying26 rfl Ab ?_)
       | (refine wpList_store_mid rfl 26 _ _ rfl w.heap.size 0 _ rfl rfl htC.out Ab (one6 _ _ _ _ _ _ _ _) ?_))
     refine bodyPost_ret (Fo (v:=.agg #[.int .i64 0,.string (⟨#[]⟩:ByteArray),.int .i64 0,.float .f64 0,.bool false,.slice none 0 0]) rfl rfl (run_loadVar_mid (P:=Tryz.prog) _ _ 0 26 _ _ hrR.out Tryz.underlying26 rfl Ab)) rfl ?_
     exact ⟨rfl,hbe.out⟩
 | got r=>
   obtain ⟨v,u,m⟩:=r;rw [ho] at hsc
   replace hsc:Calls Tryz.prog 47 #[.string s,.int .i64 0,.int .i64 1] W3 (fun e w' => ∃(a:Option Addr) (ca:Nat),e=.returned (.tuple #[.agg #[.int .i64 v.kind,.string v.text,.int .i64 v.int,.float .f64 v.real,.bool v.flag,.slice a v.list.length ca],.int .i64 (u:Int),.int .i64 (m:Int),.int .i64 0]) /\
     RV (A6 W3.heap.size w') (Av v.kind v.text v.int v.real v.flag a v.list.length ca) v/\Below W3.heap.size W3 w'):=hsc
   clear ho;have hs3:w.heap.size+1=W3.heap.size:=by rw [hW3.out];simp
   replace hsc:=Hd hsc;replace hs3:=Hd hs3
   go_enter Tryz.func29,Tryz.ntmps29
   go_upto_region 1 with fail
   rw [<-hW3.out];go_wp2_with fail
   refine hsc.out.mono ?_;rintro e w4 ⟨ax,cx,rfl,hrv,hb4⟩;clear hsc;replace hrv:=Hd hrv;have hth:=A8 w4 26;have hnv:=Ci w4 26 [.int .i64 v.kind,.string v.text,.int .i64 v.int,.float .f64 v.real,.bool v.flag,.slice ax v.list.length cx] rfl;replace hth:=Hd hth;replace hnv:=Hd hnv;have tok1:True:=trivial;go_upto_region 2 with (have _t:=tok1;refine wpList_store_mid rfl 26 _ _ rfl w4.heap.size 0 _ rfl rfl hth.out Ab (one6 _ _ _ _ _ _ _ _) ?_;clear tok1 _t)
   generalize (w4.alloc (.cells #[Value.int .i64 0,.string ⟨#[]⟩,.int .i64 0,.float .f64 0,.bool false,.slice none 0 0] 26)).setCells w4.heap.size 0 [Value.int .i64 v.kind,.string v.text,.int .i64 v.int,.float .f64 v.real,.bool v.flag,.slice ax v.list.length cx]=W6 at hnv ⊢;obtain ⟨hb6,hr6,_⟩:=hnv.out;obtain ⟨G,hG⟩:∃G,G=w4.heap.size:=⟨_,rfl⟩;rw [<-hG] at hr6 ⊢;replace hG:=Hd hG;clear hnv hth;have hb36:=hb4.trans (hb6.mono hb4.size);have htC:=Ae (n:=6) (Cz hb36 hr3.out) (hk3.out.of_block (hb36.block _ hk3.out.lt)) rfl;have hfin:Fr (fun k=>k=w.heap.size) W6 (W6.setCells w.heap.size 0 [.int .i64 v.kind,.string v.text,.int .i64 v.int,.float .f64 v.real,.bool v.flag,.slice ax v.list.length cx]):=Fr.setCells (S:=fun k=>k=w.heap.size) (fun _=>rfl) _ _ _ (Fr.refl _ W6);have hbw:=hb3.out.trans (hb36.mono hb3.out.size);have hbe:=hbw.trans (hfin.below hbw.size (fun i hi e=>by omega))
   have hrR:(W6.setCells w.heap.size 0 [.int .i64 v.kind,.string v.text,.int .i64 v.int,.float .f64 v.real,.bool v.flag,.slice ax v.list.length cx]).rangeAt w.heap.size 0 [.int .i64 v.kind,.string v.text,.int .i64 v.int,.float .f64 v.real,.bool v.flag,.slice ax v.list.length cx]:=
     World.rangeAt_setCells_same _ _ _ _ htC
   have hb46:=hb6;replace hrR:=Hd hrR;replace htC:=Hd htC;replace hr6:=Hd hr6;replace hfin:=Hd hfin;replace hbe:=Hd hbe;replace hbw:=Hd hbw;replace hb46:=Hd hb46;clear hb6 hb36
   go_wp2_with (first
     | (refine wpList_load_mid rfl 26 _ rfl G 0 rfl _ _ hr6.out Tryz.underlying26 rfl Ab ?_)
     | (refine wpList_store_mid rfl 26 _ _ rfl w.heap.size 0 _ rfl rfl htC.out Ab (one6 _ _ _ _ _ _ _ _) ?_))
   refine bodyPost_ret (Fo (v:=.agg #[.int .i64 v.kind,.string v.text,.int .i64 v.int,.float .f64 v.real,.bool v.flag,.slice ax v.list.length cx]) rfl rfl (run_loadVar_mid (P:=Tryz.prog) _ _ 0 26 _ _ hrR.out Tryz.underlying26 rfl Ab)) rfl ?_;exact ⟨ax,cx,rfl,(hrv.out.mono (E8 hb46.out)).mono (Ex hfin.out (by have:=hs3.out;omega)),hbe.out⟩
end Go.Proofs.YtagkgfniihiinaaGreatDoor
namespace Go.Proofs.YtagkgfniihiinaaGreatDoor
open Go.RowKit Go.Joins
def outX (o:Out (V × Nat × Nat)):V × Nat × Nat:=match o with
 | .stop q=>(.mk 0 ⟨#[]⟩ 0 0 false [],0,q)
 | .got (v,u,_)=>(v,u,0)
theorem parseQ_x {o:Out (V × Nat × Nat)} {w:World} {e:Ending} {w' : World} (h:D9 o w e w') {x:V} {u q:Nat} (hx:outX o=(x,u,q)):∃(a:Option Addr) (ca:Nat),e=.returned (.tuple #[.agg #[.int .i64 x.kind,.string x.text,.int .i64 x.int,.float .f64 x.real,.bool x.flag,.slice a x.list.length ca],.int .i64 (u:Int),.int .i64 (q:Int)]) /\
   RV (A6 w.heap.size w') (Av x.kind x.text x.int x.real x.flag a x.list.length ca) x/\Below w.heap.size w w' := by
 cases o with
 | stop q' =>
   obtain ⟨h1,h2⟩:=h;simp only [outX,Prod.mk.injEq] at hx;obtain ⟨rfl,rfl,rfl⟩:=hx;exact ⟨none,0,h1,RV.leaf _ _ _ _ _ _ _ _,h2⟩
 | got r=>
   obtain ⟨v,u', m⟩:=r;obtain ⟨a,ca,h1,h2,h3⟩:=h;simp only [outX,Prod.mk.injEq] at hx;obtain ⟨rfl,rfl,rfl⟩:=hx;exact ⟨a,ca,h1,h2,h3⟩
theorem outX_count {rp:Rp} (hrp:∀t r,rp t=some r->r<18446744073709551616) {L:List UInt8} {x:V} {u q:Nat} (hx:outX (As rp 8 1 L)=(x,u,q)):x.count<=1000:=by
 cases ho:As rp 8 1 L with
 | stop q' =>
   rw [ho] at hx;simp only [outX,Prod.mk.injEq] at hx;rw [<-hx.1];simp [V.count,V.countL]
 | got r=>
   obtain ⟨v,u', m⟩:=r;rw [ho] at hx;simp only [outX,Prod.mk.injEq] at hx;have hg:=Fh hrp 8 (Nat.le_refl _) 1 L v u' m ho;have:=hg.most (by decide);have:=hg.all;rw [<-hx.1];omega
set_option maxRecDepth 100000 in
set_option maxHeartbeats 3200000 in
theorem parsesL_any (a:Option Addr) (s:ByteArray) (c:Nat) (w:World) (hm:Byts w a s) (hc:s.size<=c) (hN:Nums w) (hY:Lay w) :
   Calls Tryz.prog 8 #[.slice a s.size c] w fun e w' => e=.returned (.bool true)/\Below w.heap.size w w' := by
 obtain ⟨n,hn⟩:∃n,n=s.size:=⟨_,rfl⟩
 have hal:=alive05_any (w:=w) hN
 replace hal:=Hd hal
 by_cases h20:20000<n
 · rw [<-hn]
   have h20i:(20000:Int)<(n:Int):=by omega
   replace hn:=Hd hn;replace hm:=Hd hm
   go_enter Tryz.func8,Tryz.ntmps8
   go_wp2_with fail
   refine hal.out.mono ?_;rintro e w1 ⟨rfl,hb1⟩;go_wp2_with fail
   go_ret;exact ⟨rfl,hb1⟩
 have hps:=fun (W:World) (hW:Below w.heap.size w W)=>parse_byts rpP_all (hm.below hW) hc (by omega) (hN.below hW) (hY.below hW)
 have hcv:=fun (W:World) (hW:Below w.heap.size w W)=>(hm.below hW).text (c:=c)
 have hp5:=fun (W:World) (hW:Below w.heap.size w W)=>parse5_any rpP_all (s:=s) (w:=W) (by omega) (hY.below hW)
 have hxc:=outX_count (rp:=rpP) (fun t r h=>rpP_all.lt t r h) (L:=s.data.toList) (x:=(outX (As rpP 8 1 s.data.toList)).1) (u:=(outX (As rpP 8 1 s.data.toList)).2.1) (q:=(outX (As rpP 8 1 s.data.toList)).2.2) rfl
 obtain ⟨x,u,q,hx⟩:∃x u q,outX (As rpP 8 1 s.data.toList)=(x,u,q):=⟨_,_,_,rfl⟩
 rw [hx] at hxc
 dsimp only at hxc
 rw [<-hn] at hps hcv ⊢
 have h20i:¬(20000:Int)<(n:Int):=by omega
 replace hps:=Hd hps
 replace hcv:=Hd hcv
 replace hp5:=Hd hp5
 replace hx:=Hd hx
 replace hn:=Hd hn
 replace hm:=Hd hm
 go_enter Tryz.func8,Tryz.ntmps8
 go_wp2_with fail
 refine hal.out.mono ?_
 rintro e w1 ⟨rfl,hb1⟩
 clear hal
 have hps1:=hps.out w1 hb1
 replace hps1:=Hd hps1
 replace hb1:=Hd hb1
 go_wp2_with fail
 refine hps1.out.mono ?_
 intro e w2 he
 obtain ⟨a1,c1,rfl,hrv1,hb2⟩:=parseQ_x he hx.out
 clear he hps1
 have hb02:=hb1.out.trans (hb2.mono hb1.out.size)
 have hth:=A8 w2 26
 have hnv:=Ci w2 26 [.int .i64 x.kind,.string x.text,.int .i64 x.int,.float .f64 x.real,.bool x.flag,.slice a1 x.list.length c1] rfl
 replace hth:=Hd hth
 replace hnv:=Hd hnv
 have tok1:True:=trivial
 go_upto_region 6 with (have _t:=tok1;refine wpList_store_mid rfl 26 _ _ rfl w2.heap.size 0 _ rfl rfl hth.out Ab (one6 _ _ _ _ _ _ _ _) ?_;clear tok1 _t)
 generalize (w2.alloc (.cells #[Value.int .i64 0,.string ⟨#[]⟩,.int .i64 0,.float .f64 0,.bool false,.slice none 0 0] 26)).setCells w2.heap.size 0 [Value.int .i64 x.kind,.string x.text,.int .i64 x.int,.float .f64 x.real,.bool x.flag,.slice a1 x.list.length c1]=w3 at hnv ⊢
 obtain ⟨hb3,hr3,_⟩:=hnv.out
 obtain ⟨G3,hGG3⟩:∃G,G=w2.heap.size:=⟨_,rfl⟩
 rw [<-hGG3] at hr3 ⊢
 replace hGG3:=Hd hGG3
 clear hnv hth
 have hb03:=hb02.trans (hb3.mono hb02.size)
 have hrv3:=(hrv1.mono newer_all).mono (Aa hb3)
 have hcv3:=hcv.out w3 hb03
 have hp53:=hp5.out w3 hb03
 replace hp53:=Hd hp53
 replace hb03:=Hd hb03
 replace hr3:=Hd hr3
 replace hrv3:=Hd hrv3
 clear hrv1 hb2 hb02 hb3
 go_wp2_with fail
 refine hp53.out.mono ?_
 intro e w4 he
 obtain ⟨a2,c2,rfl,hrv4,hb4⟩:=parseQ_x he hx.out
 clear he hp53 hcv3
 have hb04:=hb03.out.trans (hb4.mono hb03.out.size)
 have hr4:=Cz hb4 hr3.out
 have hrv34:=hrv3.out.mono (Aa hb4)
 replace hr4:=Hd hr4
 replace hrv34:=Hd hrv34
 have hth:=A8 w4 26
 have hnv:=Ci w4 26 [.int .i64 x.kind,.string x.text,.int .i64 x.int,.float .f64 x.real,.bool x.flag,.slice a2 x.list.length c2] rfl
 replace hth:=Hd hth
 replace hnv:=Hd hnv
 have tok1:True:=trivial
 go_upto_region 7 with (have _t:=tok1;refine wpList_store_mid rfl 26 _ _ rfl w4.heap.size 0 _ rfl rfl hth.out Ab (one6 _ _ _ _ _ _ _ _) ?_;clear tok1 _t)
 generalize (w4.alloc (.cells #[Value.int .i64 0,.string ⟨#[]⟩,.int .i64 0,.float .f64 0,.bool false,.slice none 0 0] 26)).setCells w4.heap.size 0 [Value.int .i64 x.kind,.string x.text,.int .i64 x.int,.float .f64 x.real,.bool x.flag,.slice a2 x.list.length c2]=w5 at hnv ⊢
 obtain ⟨hb5,hr5,_⟩:=hnv.out
 obtain ⟨G5,hGG5⟩:∃G,G=w4.heap.size:=⟨_,rfl⟩
 rw [<-hGG5] at hr5 ⊢
 replace hGG5:=Hd hGG5
 clear hnv hth
 have hb05:=hb04.trans (hb5.mono hb04.size)
 have hr35:=Cz hb5 hr4.out
 have hsm:=same03_any x x a1 x.list.length c1 a2 x.list.length c2 w5 (hrv34.out.mono (Aa hb5)) ((hrv4.mono newer_all).mono (Aa hb5)) (by omega)
 replace hsm:=Hd hsm
 replace hb05:=Hd hb05
 clear hr4 hrv34 hrv4 hrv3 hr3 hb03 hb04 hb4 hb5
 have p0:=hr35 0 _ rfl
 have p1:=hr35 1 _ rfl
 have p2:=hr35 2 _ rfl
 have p3:=hr35 3 _ rfl
 have p4:=hr35 4 _ rfl
 have p5:=hr35 5 _ rfl
 rw [Nat.zero_add] at p0 p1 p2 p3 p4 p5
 have r0:=hr5 0 _ rfl
 have r1:=hr5 1 _ rfl
 have r2:=hr5 2 _ rfl
 have r3:=hr5 3 _ rfl
 have r4:=hr5 4 _ rfl
 have r5:=hr5 5 _ rfl
 rw [Nat.zero_add] at r0 r1 r2 r3 r4 r5
 clear hr35 hr5
 go_wp2_with fail
 refine hsm.out.mono ?_
 rintro e w6 ⟨b,rfl,hb,hb6⟩
 obtain rfl:b=true:=by first | exact hb.2 rfl | exact hb.2 trivial
 have hb06:=hb05.out.trans (hb6.mono hb05.out.size)
 clear p0 p1 p2 p3 p4 p5 r0 r1 r2 r3 r4 r5 hb
 replace hb06:=Hd hb06
 go_wp2_with fail
 go_ret
 exact ⟨by first | rfl | simp,hb06.out⟩
end Go.Proofs.YtagkgfniihiinaaGreatDoor
