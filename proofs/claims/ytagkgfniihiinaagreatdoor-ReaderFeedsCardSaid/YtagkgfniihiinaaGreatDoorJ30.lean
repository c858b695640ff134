/- The document's reader: a scan that stops early. -/
import Derived.Test.YtagkgfniihiinaaGreatDoorJ67
import Derived.Test.YtagkgfniihiinaaGreatDoorJ29
import Derived.Test.YtagkgfniihiinaaGreatDoorR5B
import Derived.Test.YtagkgfniihiinaaGreatDoorJ81
import Derived.Test.YtagkgfniihiinaaGreatDoorJ51
set_option linter.all false
namespace Go.Proofs.YtagkgfniihiinaaGreatDoor
open Go.RowKit
theorem Al {fn:Func} {p u u2 u3:Tmp} {ty:TypeId} {tmps:Array Value} {P:Program} {w:World} {ad:Addr} {v:Value} (h:fn.results=#[.cell p ty,.tmp u,.tmp u2,.tmp u3]) (hp:tmps.getD p undef=.pointer (some ad)) (hl:(loadVar ty ad).run P w=.ok v w) :
   (results fn tmps).run P w=.ok (.tuple #[v,tmps.getD u undef,tmps.getD u2 undef,tmps.getD u3 undef]) w:=by
 simp only [results,h]
 simp [Sem.run_bind,Result.andThen,asAddr,hl,show tmps[p]?.getD undef=.pointer (some ad) by simpa using hp]
def StopZ (q:Nat) (w:World) (e:Ending) (w' : World):Prop:=∃x y:Int,e=.returned (.tuple #[.agg #[.int .i64 0,.string ⟨#[]⟩,.int .i64 0,.float .f64 0,.bool false,.slice none 0 0],.int .i64 x,.int .i64 y,.int .i64 (if q=51 then 2 else 1)])/\Below w.heap.size w w'
set_option maxRecDepth 100000 in
set_option maxHeartbeats 3200000 in
theorem scan5_nil {w:World} (d m:Int):Calls Tryz.prog 47 #[.string ⟨#[]⟩,.int .i64 d,.int .i64 m] w (StopZ 0 w):=by
 have h2:=Two.start w 0 ⟨#[]⟩ 0 0 false;obtain ⟨W2,hW2⟩:∃W,W=(w.alloc (.cells #[.int .i64 0,.string ⟨#[]⟩,.int .i64 0,.float .f64 0,.bool false,.slice none 0 0] 26)).alloc (.cells #[.int .i64 0,.string ⟨#[]⟩,.int .i64 0,.float .f64 0,.bool false,.slice none 0 0] 26):=⟨_,rfl⟩;rw [<-hW2] at h2;replace hW2:=Hd hW2;replace h2:=Hd h2
 go_enter Tryz.func47,Tryz.ntmps47
 go_upto_region 2 with fail
 rw [<-hW2.out];obtain ⟨w3,hw3⟩:∃w3,w3=W2:=⟨_,rfl⟩;rw [<-hw3] at h2 ⊢;clear hW2 hw3;have h3:=h2.out;clear h2;have hrR:(w3.setCells w.heap.size 0 [.int .i64 0,.string (⟨#[]⟩:ByteArray),.int .i64 0,.float .f64 0,.bool false,.slice none 0 0]).rangeAt w.heap.size 0 [.int .i64 0,.string (⟨#[]⟩:ByteArray),.int .i64 0,.float .f64 0,.bool false,.slice none 0 0]:=
   World.rangeAt_setCells_same _ _ _ _ (Ae (n:=6) h3.zero h3.blk rfl)
 have htC:=Ae (n:=6) h3.zero h3.blk rfl;have hfu:=h3.full;have hbl:Below w.heap.size w (w3.setCells w.heap.size 0 [.int .i64 0,.string (⟨#[]⟩:ByteArray),.int .i64 0,.float .f64 0,.bool false,.slice none 0 0]):=
   h3.below.trans ((Fr.setCells (S:=fun k=>k=w.heap.size) (fun _=>rfl) _ _ _ (Fr.refl _ w3)).below h3.below.size (fun i hi h=>by omega))
 replace hrR:=Hd hrR;replace htC:=Hd htC;replace hfu:=Hd hfu;replace hbl:=Hd hbl;replace h3:=Hd h3
 go_wp2_with (first
   | (refine wpList_load_mid rfl 26 _ rfl (w.heap.size+1) 0 rfl _ _ hfu.out Tryz.underlying26 rfl Ab ?_)
   | (refine wpList_store_mid rfl 26 _ _ rfl w.heap.size 0 _ rfl rfl htC.out Ab (one6 _ _ _ _ _ _ _ _) ?_))
 refine bodyPost_ret (Al (v:=.agg #[.int .i64 0,.string (⟨#[]⟩:ByteArray),.int .i64 0,.float .f64 0,.bool false,.slice none 0 0]) rfl rfl (run_loadVar_mid (P:=Tryz.prog) _ _ 0 26 _ _ hrR.out Tryz.underlying26 rfl Ab)) rfl ?_;exact ⟨0,0,rfl,hbl.out⟩
set_option maxRecDepth 100000 in
set_option maxHeartbeats 3200000 in
theorem scan5_kind {w:World} {s:ByteArray} (h0:0<s.size) (hk:Ac (s[0]'h0)=0) (d m:Int):Calls Tryz.prog 47 #[.string s,.int .i64 d,.int .i64 m] w (StopZ 51 w):=by
 obtain ⟨c,hc⟩:∃c,s[0]'h0=c:=⟨_,rfl⟩;rw [hc] at hk;have hkc:=C1 c;rw [hk] at hkc;have h0i:(0:Int)<(s.size:Int):=by omega
 have j0:¬s.toList=[]:=fun e=>by
   have h1:=congrArg List.length e;rw [ByteArray.toList_eq,Array.length_toList] at h1;have:s.data.size=s.size:=rfl;simp only [List.length_nil] at h1;omega
 have j1:(s.toList == [])=false:=beq_eq_false_iff_ne.2 j0;have j3:(s.toList != [])=true:=by simp [bne,j1]
 have j4:s.toList.isEmpty=false:=by cases hh:s.toList.isEmpty with | false=>rfl | true=>exact absurd (List.isEmpty_iff.1 hh) j0
 replace hkc:=Hd hkc;clear hk;have h2:=Two.start w 0 ⟨#[]⟩ 0 0 false;obtain ⟨W2,hW2⟩:∃W,W=(w.alloc (.cells #[.int .i64 0,.string ⟨#[]⟩,.int .i64 0,.float .f64 0,.bool false,.slice none 0 0] 26)).alloc (.cells #[.int .i64 0,.string ⟨#[]⟩,.int .i64 0,.float .f64 0,.bool false,.slice none 0 0] 26):=⟨_,rfl⟩;rw [<-hW2] at h2;replace hW2:=Hd hW2;replace h2:=Hd h2
 go_enter Tryz.func47,Tryz.ntmps47
 go_upto_region 2 with fail
 rw [<-hW2.out];clear hW2;go_wp2_with fail
 refine (hkc.out _).mono ?_;rintro e w3 ⟨rfl,hww⟩;have h3:=h2.out;rw [<-hww] at h3;clear h2 hww;have hrR:(w3.setCells w.heap.size 0 [.int .i64 0,.string (⟨#[]⟩:ByteArray),.int .i64 0,.float .f64 0,.bool false,.slice none 0 0]).rangeAt w.heap.size 0 [.int .i64 0,.string (⟨#[]⟩:ByteArray),.int .i64 0,.float .f64 0,.bool false,.slice none 0 0]:=
   World.rangeAt_setCells_same _ _ _ _ (Ae (n:=6) h3.zero h3.blk rfl)
 have htC:=Ae (n:=6) h3.zero h3.blk rfl;have hfu:=h3.full;have hbl:Below w.heap.size w (w3.setCells w.heap.size 0 [.int .i64 0,.string (⟨#[]⟩:ByteArray),.int .i64 0,.float .f64 0,.bool false,.slice none 0 0]):=
   h3.below.trans ((Fr.setCells (S:=fun k=>k=w.heap.size) (fun _=>rfl) _ _ _ (Fr.refl _ w3)).below h3.below.size (fun i hi h=>by omega))
 replace hrR:=Hd hrR;replace htC:=Hd htC;replace hfu:=Hd hfu;replace hbl:=Hd hbl;replace h3:=Hd h3
 go_wp2_with (first
   | (refine wpList_load_mid rfl 26 _ rfl (w.heap.size+1) 0 rfl _ _ hfu.out Tryz.underlying26 rfl Ab ?_)
   | (refine wpList_store_mid rfl 26 _ _ rfl w.heap.size 0 _ rfl rfl htC.out Ab (one6 _ _ _ _ _ _ _ _) ?_))
 refine bodyPost_ret (Al (v:=.agg #[.int .i64 0,.string (⟨#[]⟩:ByteArray),.int .i64 0,.float .f64 0,.bool false,.slice none 0 0]) rfl rfl (run_loadVar_mid (P:=Tryz.prog) _ _ 0 26 _ _ hrR.out Tryz.underlying26 rfl Ab)) rfl ?_;exact ⟨0,0,rfl,hbl.out⟩
theorem C9 {s:ByteArray}:(s.extract 1 s.size).data.toList=s.data.toList.drop 1:=by
 rw [ByteArray.data_extract,Array.toList_extract,List.extract_eq_take_drop];have:s.size - 1=(s.data.toList.drop 1).length:=by rw [List.length_drop,Array.length_toList];rfl
 rw [this,List.take_length]
theorem Bl {s:ByteArray} (h0:0<s.size):(s.toList == [])=false/\(s.toList != [])=true/\s.toList.isEmpty=false:=by
 have j0:¬s.toList=[]:=fun e=>by
   have h1:=congrArg List.length e;rw [ByteArray.toList_eq,Array.length_toList] at h1;have:s.data.size=s.size:=rfl;simp only [List.length_nil] at h1;omega
 have j1:(s.toList == [])=false:=beq_eq_false_iff_ne.2 j0;exact ⟨j1,by simp [bne,j1],by cases hh:s.toList.isEmpty with | false=>rfl | true=>exact absurd (List.isEmpty_iff.1 hh) j0⟩
set_option maxRecDepth 100000 in
set_option maxHeartbeats 3200000 in
theorem scan5_line {w:World} {s:ByteArray} {q:Nat} (h0:0<s.size) (hs:s.size<=1000000) (hk:Ac (s[0]'h0)≠0) (hl:Aw (s.data.toList.drop 1)=.stop q) (d m:Int):Calls Tryz.prog 47 #[.string s,.int .i64 d,.int .i64 m] w (StopZ q w):=by
 obtain ⟨c,hc⟩:∃c,s[0]'h0=c:=⟨_,rfl⟩;rw [hc] at hk;have hkc:=C1 c;obtain ⟨k,hkk⟩:∃k,k=Ac c:=⟨_,rfl⟩;rw [<-hkk] at hk hkc;have h0i:(0:Int)<(s.size:Int):=by omega
 have h1i:(1:Int)<=(s.size:Int):=by omega
 have k0:((k:Int) == 0)=false:=by rw [beq_eq_false_iff_ne];omega
 obtain ⟨j1,j3,j4⟩:=Bl h0;obtain ⟨T,hT⟩:∃T,T=s.extract 1 s.size:=⟨_,rfl⟩;have hTs:T.size<=1000000:=by rw [hT,ByteArray.size_extract];omega
 have hln:=Dc hTs;have hTl:T.data.toList=s.data.toList.drop 1:=by rw [hT];exact C9
 rw [hTl,hl] at hln;unfold lineA at hln;have hT2:=hT.symm;obtain ⟨z,hz⟩:∃z:Int,z=if q=51 then 2 else 1:=⟨_,rfl⟩;dsimp only at hln;rw [<-hz] at hln;have z0:(z == 0)=false:=by rw [hz];split<;>rfl
 have z1:(z != 0)=true:=by simp [bne,z0]
 replace hln:=Hd hln;replace hkc:=Hd hkc;replace hz:=Hd hz;clear hk hkk hTl hl hTs hs hT;have h2:=Two.start w 0 ⟨#[]⟩ 0 0 false;obtain ⟨W2,hW2⟩:∃W,W=(w.alloc (.cells #[.int .i64 0,.string ⟨#[]⟩,.int .i64 0,.float .f64 0,.bool false,.slice none 0 0] 26)).alloc (.cells #[.int .i64 0,.string ⟨#[]⟩,.int .i64 0,.float .f64 0,.bool false,.slice none 0 0] 26):=⟨_,rfl⟩;rw [<-hW2] at h2;replace hW2:=Hd hW2;replace h2:=Hd h2
 go_enter Tryz.func47,Tryz.ntmps47
 go_upto_region 2 with fail
 rw [<-hW2.out];clear hW2;go_wp2_with fail
 refine (hkc.out _).mono ?_;rintro e w3 ⟨rfl,hww⟩;have h3:=h2.out;rw [<-hww] at h3;clear h2 hww;go_wp2_with fail
 refine (hln.out _).mono ?_;rintro e w3 ⟨rfl,hww⟩;rw [<-hww] at h3;clear hww;have hrR:(w3.setCells w.heap.size 0 [.int .i64 0,.string (⟨#[]⟩:ByteArray),.int .i64 0,.float .f64 0,.bool false,.slice none 0 0]).rangeAt w.heap.size 0 [.int .i64 0,.string (⟨#[]⟩:ByteArray),.int .i64 0,.float .f64 0,.bool false,.slice none 0 0]:=
   World.rangeAt_setCells_same _ _ _ _ (Ae (n:=6) h3.zero h3.blk rfl)
 have htC:=Ae (n:=6) h3.zero h3.blk rfl;have hfu:=h3.full;have hbl:Below w.heap.size w (w3.setCells w.heap.size 0 [.int .i64 0,.string (⟨#[]⟩:ByteArray),.int .i64 0,.float .f64 0,.bool false,.slice none 0 0]):=
   h3.below.trans ((Fr.setCells (S:=fun k=>k=w.heap.size) (fun _=>rfl) _ _ _ (Fr.refl _ w3)).below h3.below.size (fun i hi h=>by omega))
 replace hrR:=Hd hrR;replace htC:=Hd htC;replace hfu:=Hd hfu;replace hbl:=Hd hbl;replace h3:=Hd h3
 go_wp2_with (first
   | (refine wpList_load_mid rfl 26 _ rfl (w.heap.size+1) 0 rfl _ _ hfu.out Tryz.underlying26 rfl Ab ?_)
   | (refine wpList_store_mid rfl 26 _ _ rfl w.heap.size 0 _ rfl rfl htC.out Ab (one6 _ _ _ _ _ _ _ _) ?_))
 refine bodyPost_ret (Al (v:=.agg #[.int .i64 0,.string (⟨#[]⟩:ByteArray),.int .i64 0,.float .f64 0,.bool false,.slice none 0 0]) rfl rfl (run_loadVar_mid (P:=Tryz.prog) _ _ 0 26 _ _ hrR.out Tryz.underlying26 rfl Ab)) rfl ?_;exact ⟨0,0,by rw [hz.out];rfl,hbl.out⟩
def GotZ (v:V) (u:Nat) (m:Int) (w:World) (e:Ending) (w' : World):Prop:=e=.returned (.tuple #[.agg #[.int .i64 v.kind,.string v.text,.int .i64 v.int,.float .f64 v.real,.bool v.flag,.slice none 0 0],.int .i64 (u:Int),.int .i64 m,.int .i64 0])/\Below w.heap.size w w'
set_option maxRecDepth 100000 in
set_option maxHeartbeats 3200000 in
theorem scan5_null {w:World} {s:ByteArray} {u:Nat} (h0:0<s.size) (hs:s.size<=1000000) (hk:Ac (s[0]'h0)=4\/Ac (s[0]'h0)=5) (hl:Aw (s.data.toList.drop 1)=.got ([45,49],u)) (d m:Int):Calls Tryz.prog 47 #[.string s,.int .i64 d,.int .i64 m] w (GotZ (Ao 6 ⟨#[]⟩ 0 0 false) (u+1) m w):=by
 obtain ⟨c,hc⟩:∃c,s[0]'h0=c:=⟨_,rfl⟩;rw [hc] at hk;have hkc:=C1 c;have h0i:(0:Int)<(s.size:Int):=by omega
 have h1i:(1:Int)<=(s.size:Int):=by omega
 obtain ⟨j1,j3,j4⟩:=Bl h0;obtain ⟨T,hT⟩:∃T,T=s.extract 1 s.size:=⟨_,rfl⟩;have hTs:T.size<=1000000:=by rw [hT,ByteArray.size_extract];omega
 have hln:=Dc hTs;have hTl:T.data.toList=s.data.toList.drop 1:=by rw [hT];exact C9
 have hul:=(A7 hl).1;rw [List.length_drop,Array.length_toList] at hul;have hul9:s.data.size=s.size:=rfl;obtain ⟨U,hU⟩:∃U,U=u+1:=⟨_,rfl⟩;have hu1:IntKind.i64.wrap ((u:Int)+1)=(U:Int):=by rw [IntWalk.i64_in _ (by omega)];omega
 try rw [<-hU]
 replace hU:=Hd hU;rw [hTl,hl] at hln;unfold lineA at hln;have hT2:=hT.symm;dsimp only at hln;replace hln:=Hd hln;replace hkc:=Hd hkc;clear hTl hl hTs hT hul hul9;obtain ⟨k,hkk⟩:∃k,k=Ac c:=⟨_,rfl⟩;rw [<-hkk] at hk hkc;clear hkk;have h2:=Two.start w 0 ⟨#[]⟩ 0 0 false;obtain ⟨W2,hW2⟩:∃W,W=(w.alloc (.cells #[.int .i64 0,.string ⟨#[]⟩,.int .i64 0,.float .f64 0,.bool false,.slice none 0 0] 26)).alloc (.cells #[.int .i64 0,.string ⟨#[]⟩,.int .i64 0,.float .f64 0,.bool false,.slice none 0 0] 26):=⟨_,rfl⟩;rw [<-hW2] at h2;replace hW2:=Hd hW2;replace h2:=Hd h2;rcases hk with rfl | rfl
 · go_enter Tryz.func47,Tryz.ntmps47
   go_upto_region 2 with fail
   rw [<-hW2.out];clear hW2;go_wp2_with fail
   refine (hkc.out _).mono ?_;rintro e w3 ⟨rfl,hww⟩;have h3:=h2.out;rw [<-hww] at h3;clear h2 hww;go_wp2_with fail
   refine (hln.out _).mono ?_;rintro e w3 ⟨rfl,hww⟩;rw [<-hww] at h3;clear hww;have hrR:(w3.setCells w.heap.size 0 [.int .i64 6,.string (⟨#[]⟩:ByteArray),.int .i64 0,.float .f64 0,.bool false,.slice none 0 0]).rangeAt w.heap.size 0 [.int .i64 6,.string (⟨#[]⟩:ByteArray),.int .i64 0,.float .f64 0,.bool false,.slice none 0 0]:=
     World.rangeAt_setCells_same _ _ _ _ (Ae (n:=6) h3.zero h3.blk rfl)
   have htC:=Ae (n:=6) h3.zero h3.blk rfl;have hbl:Below w.heap.size w (w3.setCells w.heap.size 0 [.int .i64 6,.string (⟨#[]⟩:ByteArray),.int .i64 0,.float .f64 0,.bool false,.slice none 0 0]):=
     h3.below.trans ((Fr.setCells (S:=fun k=>k=w.heap.size) (fun _=>rfl) _ _ _ (Fr.refl _ w3)).below h3.below.size (fun i hi h=>by omega))
   have hfu:=h3.full;replace hfu:=Hd hfu;replace hrR:=Hd hrR;replace htC:=Hd htC;replace hbl:=Hd hbl;replace h3:=Hd h3
   go_wp2_with (first
     | (refine wpList_load_mid rfl 26 _ rfl (w.heap.size+1) 0 rfl _ _ hfu.out Tryz.underlying26 rfl Ab ?_)
     | (refine wpList_store_mid rfl 26 _ _ rfl w.heap.size 0 _ rfl rfl htC.out Ab (one6 _ _ _ _ _ _ _ _) ?_))
   refine bodyPost_ret (Al (v:=.agg #[.int .i64 6,.string (⟨#[]⟩:ByteArray),.int .i64 0,.float .f64 0,.bool false,.slice none 0 0]) rfl rfl (run_loadVar_mid (P:=Tryz.prog) _ _ 0 26 _ _ hrR.out Tryz.underlying26 rfl Ab)) rfl ?_;exact ⟨by first | rfl | simp,hbl.out⟩
 · go_enter Tryz.func47,Tryz.ntmps47
   go_upto_region 2 with fail
   rw [<-hW2.out];clear hW2;go_wp2_with fail
   refine (hkc.out _).mono ?_;rintro e w3 ⟨rfl,hww⟩;have h3:=h2.out;rw [<-hww] at h3;clear h2 hww;go_wp2_with fail
   refine (hln.out _).mono ?_;rintro e w3 ⟨rfl,hww⟩;rw [<-hww] at h3;clear hww;have hrR:(w3.setCells w.heap.size 0 [.int .i64 6,.string (⟨#[]⟩:ByteArray),.int .i64 0,.float .f64 0,.bool false,.slice none 0 0]).rangeAt w.heap.size 0 [.int .i64 6,.string (⟨#[]⟩:ByteArray),.int .i64 0,.float .f64 0,.bool false,.slice none 0 0]:=
     World.rangeAt_setCells_same _ _ _ _ (Ae (n:=6) h3.zero h3.blk rfl)
   have htC:=Ae (n:=6) h3.zero h3.blk rfl;have hbl:Below w.heap.size w (w3.setCells w.heap.size 0 [.int .i64 6,.string (⟨#[]⟩:ByteArray),.int .i64 0,.float .f64 0,.bool false,.slice none 0 0]):=
     h3.below.trans ((Fr.setCells (S:=fun k=>k=w.heap.size) (fun _=>rfl) _ _ _ (Fr.refl _ w3)).below h3.below.size (fun i hi h=>by omega))
   have hfu:=h3.full;replace hfu:=Hd hfu;replace hrR:=Hd hrR;replace htC:=Hd htC;replace hbl:=Hd hbl;replace h3:=Hd h3
   go_wp2_with (first
     | (refine wpList_load_mid rfl 26 _ rfl (w.heap.size+1) 0 rfl _ _ hfu.out Tryz.underlying26 rfl Ab ?_)
     | (refine wpList_store_mid rfl 26 _ _ rfl w.heap.size 0 _ rfl rfl htC.out Ab (one6 _ _ _ _ _ _ _ _) ?_))
   refine bodyPost_ret (Al (v:=.agg #[.int .i64 6,.string (⟨#[]⟩:ByteArray),.int .i64 0,.float .f64 0,.bool false,.slice none 0 0]) rfl rfl (run_loadVar_mid (P:=Tryz.prog) _ _ 0 26 _ _ hrR.out Tryz.underlying26 rfl Ab)) rfl ?_;exact ⟨by first | rfl | simp,hbl.out⟩
end Go.Proofs.YtagkgfniihiinaaGreatDoor
