/- The document's reader: a scan that stops early. -/
import Derived.Test.YtagkgfniihiinaaGreatDoorJ59
set_option linter.all false
set_option maxHeartbeats 3200000
set_option maxRecDepth 100000
namespace Go.Proofs.YtagkgfniihiinaaGreatDoor
open Go.RowKit
theorem As {fn:Func} {p u u2 u3:Tmp} {ty:TypeId} {tmps:Array Value} {P:Program} {w:World} {ad:Addr} {v:Value} (h:fn.results=#[.cell p ty,.tmp u,.tmp u2,.tmp u3]) (hp:tmps.getD p undef=.pointer (some ad)) (hl:(loadVar ty ad).run P w=.ok v w) :
  (results fn tmps).run P w=.ok (.tuple #[v,tmps.getD u undef,tmps.getD u2 undef,tmps.getD u3 undef]) w:=by
 simp only [results,h];simp [Sem.run_bind,Result.andThen,asAddr,hl,show tmps[p]?.getD undef=.pointer (some ad) by simpa using hp]
def StopZ (q:Nat) (w:World) (e:Ending) (w' : World):Prop:=∃x y:Int,e=.returned (.tuple #[.agg #[.int .i64 0,.string ⟨#[]⟩,.int .i64 0,.float .f64 0,.bool false,.slice none 0 0],.int .i64 x,.int .i64 y,.int .i64 (if q=51 then 2 else 1)])/\Below w.heap.size w w'
theorem scan5_nil {w:World} (d m:Int):Calls Tryz.prog 47 #[.string ⟨#[]⟩,.int .i64 d,.int .i64 m] w (StopZ 0 w):=by
 have h2:=Two.start w 0 ⟨#[]⟩ 0 0 false;obtain ⟨W2,hW2⟩:∃W,W=(w.alloc (.cells #[.int .i64 0,.string ⟨#[]⟩,.int .i64 0,.float .f64 0,.bool false,.slice none 0 0] 26)).alloc (.cells #[.int .i64 0,.string ⟨#[]⟩,.int .i64 0,.float .f64 0,.bool false,.slice none 0 0] 26):=⟨_,rfl⟩;rw [<-hW2] at h2;replace hW2:=Hd hW2;replace h2:=Hd h2
 go_enter Tryz.func47,Tryz.ntmps47
 go_upto_region 2 with fail
 rw [<-hW2.out];obtain ⟨w3,hw3⟩:∃w3,w3=W2:=⟨_,rfl⟩;rw [<-hw3] at h2 ⊢;clear hW2 hw3;have h3:=h2.out;clear h2;have a:(w3.setCells w.heap.size 0 [.int .i64 0,.string (⟨#[]⟩:ByteArray),.int .i64 0,.float .f64 0,.bool false,.slice none 0 0]).rangeAt w.heap.size 0 [.int .i64 0,.string (⟨#[]⟩:ByteArray),.int .i64 0,.float .f64 0,.bool false,.slice none 0 0]:=
  World.rangeAt_setCells_same _ _ _ _ (Af (n:=6) h3.zero h3.blk rfl)
 have c:=Hd (Af (n:=6) h3.zero h3.blk rfl);have e:=Hd (h3.full);have b:Below w.heap.size w (w3.setCells w.heap.size 0 [.int .i64 0,.string (⟨#[]⟩:ByteArray),.int .i64 0,.float .f64 0,.bool false,.slice none 0 0]):=
  h3.below.trans ((Fr.setCells (S:=fun k=>k=w.heap.size) (fun _=>rfl) _ _ _ (Fr.refl _ w3)).below h3.below.size (fun i hi h=>by omega))
 replace a:=Hd a;replace b:=Hd b;replace h3:=Hd h3
 go_wp2_with (first
  | (refine wpList_load_mid rfl 26 _ rfl (w.heap.size+1) 0 rfl _ _ e.out Tryz.underlying26 rfl Ad ?_)
  | (refine wpList_store_mid rfl 26 _ _ rfl w.heap.size 0 _ rfl rfl c.out Ad (one6 _ _ _ _ _ _ _ _) ?_))
 refine bodyPost_ret (As (v:=.agg #[.int .i64 0,.string (⟨#[]⟩:ByteArray),.int .i64 0,.float .f64 0,.bool false,.slice none 0 0]) rfl rfl (run_loadVar_mid (P:=Tryz.prog) _ _ 0 26 _ _ a.out Tryz.underlying26 rfl Ad)) rfl ?_;exact ⟨0,0,rfl,b.out⟩
theorem scan5_kind {w:World} {s:ByteArray} (h0:0<s.size) (hk:Ab (s[0]'h0)=0) (d m:Int):Calls Tryz.prog 47 #[.string s,.int .i64 d,.int .i64 m] w (StopZ 51 w):=by
 obtain ⟨c,hc⟩:∃c,s[0]'h0=c:=⟨_,rfl⟩;rw [hc] at hk;have a:=Dg c;rw [hk] at a;have h0i:(0:Int)<(s.size:Int):=by omega
 have j0:¬s.toList=[]:=fun e=>by
  have h1:=congrArg List.length e;rw [ByteArray.toList_eq,Array.length_toList] at h1;have:s.data.size=s.size:=rfl;simp only [List.length_nil] at h1;omega
 have j1:(s.toList == [])=false:=beq_eq_false_iff_ne.2 j0;have j3:(s.toList != [])=true:=by simp [bne,j1]
 have j4:s.toList.isEmpty=false:=by cases hh:s.toList.isEmpty with | false=>rfl | true=>exact absurd (List.isEmpty_iff.1 hh) j0
 replace a:=Hd a;clear hk;have h2:=Two.start w 0 ⟨#[]⟩ 0 0 false;obtain ⟨W2,hW2⟩:∃W,W=(w.alloc (.cells #[.int .i64 0,.string ⟨#[]⟩,.int .i64 0,.float .f64 0,.bool false,.slice none 0 0] 26)).alloc (.cells #[.int .i64 0,.string ⟨#[]⟩,.int .i64 0,.float .f64 0,.bool false,.slice none 0 0] 26):=⟨_,rfl⟩;rw [<-hW2] at h2;replace hW2:=Hd hW2;replace h2:=Hd h2
 go_enter Tryz.func47,Tryz.ntmps47
 go_upto_region 2 with fail
 rw [<-hW2.out];clear hW2;go_wp2_with fail
 refine (a.out _).mono ?_;rintro e w3 ⟨rfl,g⟩;have h3:=h2.out;rw [<-g] at h3;clear h2 g;have b:(w3.setCells w.heap.size 0 [.int .i64 0,.string (⟨#[]⟩:ByteArray),.int .i64 0,.float .f64 0,.bool false,.slice none 0 0]).rangeAt w.heap.size 0 [.int .i64 0,.string (⟨#[]⟩:ByteArray),.int .i64 0,.float .f64 0,.bool false,.slice none 0 0]:=
  World.rangeAt_setCells_same _ _ _ _ (Af (n:=6) h3.zero h3.blk rfl)
 have j:=Hd (Af (n:=6) h3.zero h3.blk rfl);have l:=Hd (h3.full);have f:Below w.heap.size w (w3.setCells w.heap.size 0 [.int .i64 0,.string (⟨#[]⟩:ByteArray),.int .i64 0,.float .f64 0,.bool false,.slice none 0 0]):=
  h3.below.trans ((Fr.setCells (S:=fun k=>k=w.heap.size) (fun _=>rfl) _ _ _ (Fr.refl _ w3)).below h3.below.size (fun i hi h=>by omega))
 replace b:=Hd b;replace f:=Hd f;replace h3:=Hd h3
 go_wp2_with (first
  | (refine wpList_load_mid rfl 26 _ rfl (w.heap.size+1) 0 rfl _ _ l.out Tryz.underlying26 rfl Ad ?_)
  | (refine wpList_store_mid rfl 26 _ _ rfl w.heap.size 0 _ rfl rfl j.out Ad (one6 _ _ _ _ _ _ _ _) ?_))
 refine bodyPost_ret (As (v:=.agg #[.int .i64 0,.string (⟨#[]⟩:ByteArray),.int .i64 0,.float .f64 0,.bool false,.slice none 0 0]) rfl rfl (run_loadVar_mid (P:=Tryz.prog) _ _ 0 26 _ _ b.out Tryz.underlying26 rfl Ad)) rfl ?_;exact ⟨0,0,rfl,f.out⟩
theorem D1 {s:ByteArray}:(s.extract 1 s.size).data.toList=s.data.toList.drop 1:=by
 rw [ByteArray.data_extract,Array.toList_extract,List.extract_eq_take_drop];have:s.size - 1=(s.data.toList.drop 1).length:=by rw [List.length_drop,Array.length_toList];rfl
 rw [this,List.take_length]
theorem Bw {s:ByteArray} (h0:0<s.size):(s.toList == [])=false/\(s.toList != [])=true/\s.toList.isEmpty=false:=by
 have j0:¬s.toList=[]:=fun e=>by
  have h1:=congrArg List.length e;rw [ByteArray.toList_eq,Array.length_toList] at h1;have:s.data.size=s.size:=rfl;simp only [List.length_nil] at h1;omega
 have j1:(s.toList == [])=false:=beq_eq_false_iff_ne.2 j0;exact ⟨j1,by simp [bne,j1],by cases hh:s.toList.isEmpty with | false=>rfl | true=>exact absurd (List.isEmpty_iff.1 hh) j0⟩
theorem scan5_line {w:World} {s:ByteArray} {q:Nat} (h0:0<s.size) (hs:s.size<=1000000) (hk:Ab (s[0]'h0)≠0) (hl:Az (s.data.toList.drop 1)=.stop q) (d m:Int):Calls Tryz.prog 47 #[.string s,.int .i64 d,.int .i64 m] w (StopZ q w):=by
 obtain ⟨c,hc⟩:∃c,s[0]'h0=c:=⟨_,rfl⟩;rw [hc] at hk;have f:=Dg c;obtain ⟨k,hkk⟩:∃k,k=Ab c:=⟨_,rfl⟩;rw [<-hkk] at hk f;have h0i:(0:Int)<(s.size:Int):=by omega
 have h1i:(1:Int)<=(s.size:Int):=by omega
 have k0:((k:Int) == 0)=false:=by rw [beq_eq_false_iff_ne];omega
 obtain ⟨j1,j3,j4⟩:=Bw h0;obtain ⟨T,hT⟩:∃T,T=s.extract 1 s.size:=⟨_,rfl⟩;have l:T.size<=1000000:=by rw [hT,ByteArray.size_extract];omega
 have a:=D2 l;have o:T.data.toList=s.data.toList.drop 1:=by rw [hT];exact D1
 rw [o,hl] at a;unfold lineA at a;have hT2:=hT.symm;obtain ⟨z,hz⟩:∃z:Int,z=if q=51 then 2 else 1:=⟨_,rfl⟩;dsimp only at a;rw [<-hz] at a;have z0:(z == 0)=false:=by rw [hz];split<;>rfl
 have z1:(z != 0)=true:=by simp [bne,z0]
 replace a:=Hd a;replace f:=Hd f;replace hz:=Hd hz;clear hk hkk o hl l hs hT;have h2:=Two.start w 0 ⟨#[]⟩ 0 0 false;obtain ⟨W2,hW2⟩:∃W,W=(w.alloc (.cells #[.int .i64 0,.string ⟨#[]⟩,.int .i64 0,.float .f64 0,.bool false,.slice none 0 0] 26)).alloc (.cells #[.int .i64 0,.string ⟨#[]⟩,.int .i64 0,.float .f64 0,.bool false,.slice none 0 0] 26):=⟨_,rfl⟩;rw [<-hW2] at h2;replace hW2:=Hd hW2;replace h2:=Hd h2
 go_enter Tryz.func47,Tryz.ntmps47
 go_upto_region 2 with fail
 rw [<-hW2.out];clear hW2;go_wp2_with fail
 refine (f.out _).mono ?_;rintro e w3 ⟨rfl,b⟩;have h3:=h2.out;rw [<-b] at h3;clear h2 b;go_wp2_with fail
 refine (a.out _).mono ?_;rintro e w3 ⟨rfl,b⟩;rw [<-b] at h3;clear b;have g:(w3.setCells w.heap.size 0 [.int .i64 0,.string (⟨#[]⟩:ByteArray),.int .i64 0,.float .f64 0,.bool false,.slice none 0 0]).rangeAt w.heap.size 0 [.int .i64 0,.string (⟨#[]⟩:ByteArray),.int .i64 0,.float .f64 0,.bool false,.slice none 0 0]:=
  World.rangeAt_setCells_same _ _ _ _ (Af (n:=6) h3.zero h3.blk rfl)
 have p:=Hd (Af (n:=6) h3.zero h3.blk rfl);have r:=Hd (h3.full);have j:Below w.heap.size w (w3.setCells w.heap.size 0 [.int .i64 0,.string (⟨#[]⟩:ByteArray),.int .i64 0,.float .f64 0,.bool false,.slice none 0 0]):=
  h3.below.trans ((Fr.setCells (S:=fun k=>k=w.heap.size) (fun _=>rfl) _ _ _ (Fr.refl _ w3)).below h3.below.size (fun i hi h=>by omega))
 replace g:=Hd g;replace j:=Hd j;replace h3:=Hd h3
 go_wp2_with (first
  | (refine wpList_load_mid rfl 26 _ rfl (w.heap.size+1) 0 rfl _ _ r.out Tryz.underlying26 rfl Ad ?_)
  | (refine wpList_store_mid rfl 26 _ _ rfl w.heap.size 0 _ rfl rfl p.out Ad (one6 _ _ _ _ _ _ _ _) ?_))
 refine bodyPost_ret (As (v:=.agg #[.int .i64 0,.string (⟨#[]⟩:ByteArray),.int .i64 0,.float .f64 0,.bool false,.slice none 0 0]) rfl rfl (run_loadVar_mid (P:=Tryz.prog) _ _ 0 26 _ _ g.out Tryz.underlying26 rfl Ad)) rfl ?_;exact ⟨0,0,by rw [hz.out];rfl,j.out⟩
def GotZ (v:V) (u:Nat) (m:Int) (w:World) (e:Ending) (w' : World):Prop:=e=.returned (.tuple #[.agg #[.int .i64 v.kind,.string v.text,.int .i64 v.int,.float .f64 v.real,.bool v.flag,.slice none 0 0],.int .i64 (u:Int),.int .i64 m,.int .i64 0])/\Below w.heap.size w w'
theorem scan5_null {w:World} {s:ByteArray} {u:Nat} (h0:0<s.size) (hs:s.size<=1000000) (hk:Ab (s[0]'h0)=4\/Ab (s[0]'h0)=5) (hl:Az (s.data.toList.drop 1)=.got ([45,49],u)) (d m:Int):Calls Tryz.prog 47 #[.string s,.int .i64 d,.int .i64 m] w (GotZ (Ar 6 ⟨#[]⟩ 0 0 false) (u+1) m w):=by
 obtain ⟨c,hc⟩:∃c,s[0]'h0=c:=⟨_,rfl⟩;rw [hc] at hk;have f:=Dg c;have h0i:(0:Int)<(s.size:Int):=by omega
 have h1i:(1:Int)<=(s.size:Int):=by omega
 obtain ⟨j1,j3,j4⟩:=Bw h0;obtain ⟨T,hT⟩:∃T,T=s.extract 1 s.size:=⟨_,rfl⟩;have l:T.size<=1000000:=by rw [hT,ByteArray.size_extract];omega
 have a:=D2 l;have o:T.data.toList=s.data.toList.drop 1:=by rw [hT];exact D1
 have p:=(Bb hl).1;rw [List.length_drop,Array.length_toList] at p;have q:s.data.size=s.size:=rfl;obtain ⟨U,hU⟩:∃U,U=u+1:=⟨_,rfl⟩;have hu1:IntKind.i64.wrap ((u:Int)+1)=(U:Int):=by rw [IntWalk.i64_in _ (by omega)];omega
 try rw [<-hU]
 replace hU:=Hd hU;rw [o,hl] at a;unfold lineA at a;have hT2:=hT.symm;dsimp only at a;replace a:=Hd a;replace f:=Hd f;clear o hl l hT p q;obtain ⟨k,hkk⟩:∃k,k=Ab c:=⟨_,rfl⟩;rw [<-hkk] at hk f;clear hkk;have h2:=Two.start w 0 ⟨#[]⟩ 0 0 false;obtain ⟨W2,hW2⟩:∃W,W=(w.alloc (.cells #[.int .i64 0,.string ⟨#[]⟩,.int .i64 0,.float .f64 0,.bool false,.slice none 0 0] 26)).alloc (.cells #[.int .i64 0,.string ⟨#[]⟩,.int .i64 0,.float .f64 0,.bool false,.slice none 0 0] 26):=⟨_,rfl⟩;rw [<-hW2] at h2;replace hW2:=Hd hW2;replace h2:=Hd h2;rcases hk with rfl | rfl
 all_goals
  go_enter Tryz.func47,Tryz.ntmps47
  go_upto_region 2 with fail
  rw [<-hW2.out]
  clear hW2
  go_wp2_with fail
  refine (f.out _).mono ?_
  rintro e w3 ⟨rfl,b⟩
  have h3:=h2.out
  rw [<-b] at h3
  clear h2 b
  go_wp2_with fail
  refine (a.out _).mono ?_
  rintro e w3 ⟨rfl,b⟩
  rw [<-b] at h3
  clear b
  have g:(w3.setCells w.heap.size 0 [.int .i64 6,.string (⟨#[]⟩:ByteArray),.int .i64 0,.float .f64 0,.bool false,.slice none 0 0]).rangeAt w.heap.size 0 [.int .i64 6,.string (⟨#[]⟩:ByteArray),.int .i64 0,.float .f64 0,.bool false,.slice none 0 0]:=
   World.rangeAt_setCells_same _ _ _ _ (Af (n:=6) h3.zero h3.blk rfl)
  have r:=Hd (Af (n:=6) h3.zero h3.blk rfl)
  have j:Below w.heap.size w (w3.setCells w.heap.size 0 [.int .i64 6,.string (⟨#[]⟩:ByteArray),.int .i64 0,.float .f64 0,.bool false,.slice none 0 0]):=
   h3.below.trans ((Fr.setCells (S:=fun k=>k=w.heap.size) (fun _=>rfl) _ _ _ (Fr.refl _ w3)).below h3.below.size (fun i hi h=>by omega))
  have t:=Hd (h3.full)
  replace g:=Hd g
  replace j:=Hd j
  replace h3:=Hd h3
  go_wp2_with (first
   | (refine wpList_load_mid rfl 26 _ rfl (w.heap.size+1) 0 rfl _ _ t.out Tryz.underlying26 rfl Ad ?_)
   | (refine wpList_store_mid rfl 26 _ _ rfl w.heap.size 0 _ rfl rfl r.out Ad (one6 _ _ _ _ _ _ _ _) ?_))
  refine bodyPost_ret (As (v:=.agg #[.int .i64 6,.string (⟨#[]⟩:ByteArray),.int .i64 0,.float .f64 0,.bool false,.slice none 0 0]) rfl rfl (run_loadVar_mid (P:=Tryz.prog) _ _ 0 26 _ _ g.out Tryz.underlying26 rfl Ad)) rfl ?_
  exact ⟨by first | rfl | simp,j.out⟩
theorem scan_len {rp:Rp} (hrp:∀t r,rp t=some r->r<18446744073709551616) (lv:Nat) (h8:lv<=8) (many:Nat) (L:List UInt8) (v:V) (u m:Nat) (h:At rp lv many L=.got (v,u,m)):u<=L.length:=(scan_good hrp lv h8 many L v u m h).len
theorem headL_len {rp:Rp} {L:List UInt8} {kd n u:Nat} (h:A0 rp L=.list kd n u):u<=L.length:=(head_listG h).2.2.2
theorem index_keep:∀{t:List UInt8} {c:UInt8} (z:List UInt8),0<=Lib.indexByte t c->Lib.indexByte (t++z) c=Lib.indexByte t c
 | [],c,z,h=>by
  have h:(0:Int)<=-1:=h;omega
 | b :: t,c,z,h=>by
  rw [List.cons_append];unfold Lib.indexByte at h ⊢;by_cases hb:(b == c)=true
  ·rw [if_pos hb,if_pos hb]
  ·rw [if_neg hb] at h ⊢
   rw [if_neg hb];have hg:=Lib.indexByte_ge t c;split at h
   ·exact absurd h (by decide)
   ·rename_i h1
    have h1' : Lib.indexByte t c≠-1:=by simpa using h1
    have ih:=index_keep (t:=t) (c:=c) z (by omega);rw [ih]
theorem index_not:∀{t:List UInt8} {c:UInt8},Lib.indexByte t c<0->c ∉ t
 | [],_,_=>by simp
 | b :: t,c,h=>by
  unfold Lib.indexByte at h;by_cases hb:(b == c)=true
  ·rw [if_pos hb] at h;exact absurd h (by decide)
  ·rw [if_neg hb] at h
   have hg:=Lib.indexByte_ge t c;split at h
   ·rename_i h1
    have h1' : Lib.indexByte t c=-1:=by simpa using h1
    have:=index_not (t:=t) (c:=c) (by omega);intro hm;rcases List.mem_cons.1 hm with e | hm
    ·exact hb (by rw [e];simp)
    ·exact this hm
   ·omega
theorem index_more {t z:List UInt8} {c:UInt8} (h:Lib.indexByte t c<0):Lib.indexByte (t++z) c=-1\/(t.length:Int)<=Lib.indexByte (t++z) c:=index_or z (index_not h)
theorem index_len:∀(t:List UInt8) (c:UInt8),Lib.indexByte t c<t.length
 | [],c=>by
  show (-1:Int)<0;decide
 | b :: t,c=>by
  unfold Lib.indexByte;have:=index_len t c;rw [List.length_cons];split
  ·omega
  ·split<;>omega
theorem lineS_ext (L z:List UInt8):(∀p,Az L=.got p->Az (L++z)=.got p)/\(Az L=.stop 51->Az (L++z)=.stop 51)/\(∀q,Az L=.stop q->q=0\/q=51):=by
 obtain ⟨z', hz'⟩:∃z', (L++z).take 4200=L.take 4200++z' := ⟨z.take (4200 - L.length),by rw [List.take_append]⟩;obtain ⟨a,hl⟩:((L.take 4200).length=4200->z' = [])/\(L.take 4200++z').length<=4200:=by
  have h1:(L.take 4200++z').length<=4200:=by rw [<-hz', List.length_take];omega
  refine ⟨fun h=>?_,h1⟩;rw [List.length_append,h] at h1;exact List.length_eq_zero_iff.1 (by omega)
 unfold Az;rw [hz'];generalize L.take 4200=R at a hl ⊢;dsimp only;have n1:=@index_keep R 10 z';have n2:=@index_more R z' 10;have b1:=@index_keep R 13 z';have b2:=@index_more R z' 13;have n3:=index_len R 10;have b3:=index_len R 13;have n4:=Lib.indexByte_ge R 10;have n5:=index_len (R++z') 10;have b4:=Lib.indexByte_ge R 13;rw [List.length_append] at hl n5;have c:(R++z').length=R.length+z'.length:=List.length_append;have d:R.length=4200->z'.length=0:=fun h=>by rw [a h];rfl
 have e:∀k,k<=R.length->(R++z').take k=R.take k:=fun k h=>List.take_append_of_le_length h;generalize Lib.indexByte (R++z') 10=n' at *;generalize Lib.indexByte (R++z') 13=b' at *;generalize Lib.indexByte R 10=n at *;generalize Lib.indexByte R 13=b at *;rw [c];refine ⟨fun p hp=>?_,fun hp=>?_,fun q hp=>?_⟩
 ·split at hp
  ·cases hp
  ·rename_i hc
   split at hp
   ·cases hp
   ·rename_i hn
    have e1:n' = n:=n1 (by omega);have hb:b=n - 1:=by omega
    have e2:b' = b:=b1 (by omega);rw [e1,e2,if_neg (by omega),if_neg hn,e _ (by omega)];exact hp
 ·split at hp
  ·rename_i hc
   rw [if_pos];rcases hc with hc | hc | hc | hc
   ·left;rw [n1 (by omega)];exact hc
   ·right;left
    have e1:n' = n:=n1 (by omega);rcases Int.lt_or_le b 0 with hb | hb
    ·have:=b2 hb
     omega
    ·have:=b1 hb
     omega
   ·have e2:b' = b:=b1 (by omega)
    have:=n2 hc.1;omega
   ·have h0:=d hc.2
    have:=n2 hc.1;omega
  ·split at hp
   ·simp at hp
   ·cases hp
 ·split at hp
  ·simp only [Out.stop.injEq] at hp;omega
  ·split at hp
   ·simp only [Out.stop.injEq] at hp;omega
   ·cases hp
theorem longS_ext (L z:List UInt8) (k:Nat):(∀p,Cd L k=.got p->Cd (L++z) k=.got p)/\(Cd L k=.stop 51->Cd (L++z) k=.stop 51)/\(∀q,Cd L k=.stop q->q=0\/q=51):=by
 have g1:k<L.length->L.getD k 0=(L++z).getD k 0:=fun h=>getD_app h;have g2:k+1<L.length->L.getD (k+1) 0=(L++z).getD (k+1) 0:=fun h=>getD_app h;have b:(L++z).length=L.length+z.length:=List.length_append;have ht:k<=L.length->(L++z).take k=L.take k:=fun h=>List.take_append_of_le_length h;unfold Cd;rw [b];generalize (L++z).getD k 0=a' at *;generalize (L++z).getD (k+1) 0=d' at *;generalize L.getD k 0=a at *;generalize L.getD (k+1) 0=d at *;refine ⟨fun p hp=>?_,fun hp=>?_,fun q hp=>?_⟩
 ·split at hp
  ·cases hp
  ·rename_i hc
   split at hp
   ·cases hp
   ·rename_i h2
    rw [<-g1 (by omega),<-g2 (by omega),if_neg,if_neg (by omega),ht (by omega)]
    ·exact hp
    ·rintro (⟨_,h⟩ | ⟨_,h⟩)
     ·exact hc (.inl ⟨by omega,h⟩)
     ·exact hc (.inr ⟨by omega,h⟩)
 ·split at hp
  ·rename_i hc
   rw [if_pos];rcases hc with ⟨h1,h2⟩ | ⟨h1,h2⟩
   ·exact .inl ⟨by omega,by rw [<-g1 h1];exact h2⟩
   ·exact .inr ⟨by omega,by rw [<-g2 h1];exact h2⟩
  ·split at hp
   ·simp at hp
   ·cases hp
 ·split at hp
  ·simp only [Out.stop.injEq] at hp;omega
  ·split at hp
   ·simp only [Out.stop.injEq] at hp;omega
   ·cases hp
theorem headS_ext {rp:Rp} (L z:List UInt8):((∀q,A0 rp L=.stop q->q=0\/q=51))/\(A0 rp L≠.stop 0->A0 rp (L++z)=A0 rp L):=by
 cases L with
 | nil=>exact ⟨fun q h=>by unfold A0 at h;simp only [Head.stop.injEq] at h;omega,fun h=>absurd rfl h⟩
 | cons c L=>
  rw [List.cons_append];unfold A0;by_cases hk0:Ab c=0
  ·simp only [if_pos hk0]
   exact ⟨fun q h=>by simp only [Head.stop.injEq] at h;omega,fun _=>trivial⟩
  simp only [if_neg hk0];obtain ⟨l1,l2,l3⟩:=lineS_ext L z;cases hl:Az L with
  | stop e=>
   dsimp only;have he:=l3 e hl;refine ⟨fun q h=>by simp only [Head.stop.injEq] at h;omega,fun h=>?_⟩;have:e=51:=by
    rcases he with rfl | rfl
    ·exact absurd rfl h
    ·rfl
   subst this;rw [l2 hl]
  | got p=>
   obtain ⟨t,u⟩:=p;rw [l1 _ hl];dsimp only;obtain ⟨u1,u2,u3⟩:=Bb hl;by_cases hm:t=[45,49]/\(Ab c=4\/Ab c=5)
   ·simp only [if_pos hm]
    exact ⟨fun q h=>(by cases h),fun _=>trivial⟩
   simp only [if_neg hm];by_cases hk:Ab c=4\/Ab c=10\/Ab c=11
   ·simp only [if_pos hk]
    cases hn:numS t 4096 with
    | none=>exact ⟨fun q h=>by simp only [Head.stop.injEq] at h;omega,fun _=>rfl⟩
    | some n=>
     dsimp only;rw [List.drop_append_of_le_length u1];obtain ⟨s1,s2,s3⟩:=longS_ext (L.drop u) z n;cases hs:Cd (L.drop u) n with
     | stop e=>
      dsimp only;have he:=s3 e hs;refine ⟨fun q h=>by simp only [Head.stop.injEq] at h;omega,fun h=>?_⟩;have:e=51:=by
       rcases he with rfl | rfl
       ·exact absurd rfl h
       ·rfl
      subst this;rw [s2 hs]
     | got s=>
      rw [s1 _ hs];dsimp only;refine ⟨fun q h=>?_,fun _=>rfl⟩;split at h
      ·cases h
      ·simp only [Head.stop.injEq] at h;omega
   simp only [if_neg hk];refine ⟨fun q h=>?_,fun _=>trivial⟩
   repeat' (split at h)
   all_goals first | (simp only [Head.stop.injEq] at h;omega) | (cases h)
theorem scanN_ext {f:Nat->List UInt8->Out (V × Nat × Nat)} (hf:∀m L z,(∀p,f m L=.got p->f m (L++z)=.got p)/\(f m L=.stop 51->f m (L++z)=.stop 51)/\(∀q,f m L=.stop q->q=0\/q=51)/\(∀v u m', f m L=.got (v,u,m')->u<=L.length)) :
  ∀(n m:Nat) (L z:List UInt8),(∀p,Bg f n m L=.got p->Bg f n m (L++z)=.got p)/\(Bg f n m L=.stop 51->Bg f n m (L++z)=.stop 51)/\(∀q,Bg f n m L=.stop q->q=0\/q=51)
 | 0,m,L,z=>⟨fun p h=>h,fun h=>h,fun q h=>by unfold Bg at h;cases h⟩
 | n+1,m,L,z=>by
  unfold Bg;obtain ⟨f1,f2,f3,f4⟩:=hf m L z;cases h:f m L with
  | stop e=>
   dsimp only;refine ⟨fun p hp=>(by cases hp),fun hp=>?_,fun q hp=>?_⟩
   ·simp only [Out.stop.injEq] at hp
    subst hp;rw [f2 h]
   ·simp only [Out.stop.injEq] at hp
    have:=f3 _ h;omega
  | got p=>
   obtain ⟨v,u,m'⟩:=p;rw [f1 _ h];dsimp only;rw [List.drop_append_of_le_length (f4 _ _ _ h)];obtain ⟨k1,k2,k3⟩:=scanN_ext hf n m' (L.drop u) z;cases h2:Bg f n m' (L.drop u) with
   | stop e=>
    dsimp only;refine ⟨fun p hp=>(by cases hp),fun hp=>?_,fun q hp=>?_⟩
    ·simp only [Out.stop.injEq] at hp
     subst hp;rw [k2 h2]
    ·simp only [Out.stop.injEq] at hp
     have:=k3 _ h2;omega
   | got p2=>
    rw [k1 _ h2];exact ⟨fun p hp=>hp,fun hp=>hp,fun q hp=>(by cases hp)⟩
theorem scan_ext {rp:Rp} (hrp:∀t r,rp t=some r->r<18446744073709551616):∀(lv:Nat),lv<=8->∀(m:Nat) (L z:List UInt8),(∀p,At rp lv m L=.got p->At rp lv m (L++z)=.got p)/\(At rp lv m L=.stop 51->At rp lv m (L++z)=.stop 51)/\(∀q,At rp lv m L=.stop q->q=0\/q=51)
 | 0,_,m,L,z=>by
  obtain ⟨h1,h2⟩:=headS_ext (rp:=rp) L z;unfold At;cases h:A0 rp L with
  | stop e=>
   dsimp only;have he:=h1 e h;refine ⟨fun p hp=>(by cases hp),fun hp=>?_,fun q hp=>?_⟩
   ·simp only [Out.stop.injEq] at hp
    subst hp;rw [h2 (by rw [h];simp),h]
   ·simp only [Out.stop.injEq] at hp
    omega
  | leaf v u=>
   rw [h2 (by rw [h];simp),h];exact ⟨fun p hp=>hp,fun hp=>hp,fun q hp=>(by cases hp)⟩
  | list kd n u=>
   rw [h2 (by rw [h];simp),h];exact ⟨fun p hp=>hp,fun hp=>hp,fun q hp=>by simp only [Out.stop.injEq] at hp;omega⟩
 | lv+1,hlv,m,L,z=>by
  obtain ⟨h1,h2⟩:=headS_ext (rp:=rp) L z;unfold At;cases h:A0 rp L with
  | stop e=>
   dsimp only;have he:=h1 e h;refine ⟨fun p hp=>(by cases hp),fun hp=>?_,fun q hp=>?_⟩
   ·simp only [Out.stop.injEq] at hp
    subst hp;rw [h2 (by rw [h];simp),h]
   ·simp only [Out.stop.injEq] at hp
    omega
  | leaf v u=>
   rw [h2 (by rw [h];simp),h];exact ⟨fun p hp=>hp,fun hp=>hp,fun q hp=>(by cases hp)⟩
  | list kd n u=>
   rw [h2 (by rw [h];simp),h];dsimp only;by_cases hc:1000<m+n\/(kd=14/\(n=0\/lv<7))
   ·simp only [if_pos hc]
    exact ⟨fun p hp=>hp,fun _=>trivial,fun q hp=>by simp only [Out.stop.injEq] at hp;omega⟩
   ·simp only [if_neg hc]
    rw [List.drop_append_of_le_length (headL_len h)];obtain ⟨k1,k2,k3⟩:=scanN_ext (f:=At rp lv) (fun m L z=>by
     obtain ⟨a1,a2,a3⟩:=scan_ext hrp lv (by omega) m L z;exact ⟨a1,a2,a3,fun v u m' h=>scan_len hrp lv (by omega) m L v u m' h⟩) n (m+n) (L.drop u) z
    cases hs:Bg (At rp lv) n (m+n) (L.drop u) with
    | stop e=>
     dsimp only;refine ⟨fun p hp=>(by cases hp),fun hp=>?_,fun q hp=>?_⟩
     ·simp only [Out.stop.injEq] at hp
      subst hp;rw [k2 hs]
     ·simp only [Out.stop.injEq] at hp
      have:=k3 _ hs;omega
    | got p=>
     rw [k1 _ hs];exact ⟨fun p hp=>hp,fun hp=>hp,fun q hp=>(by cases hp)⟩
