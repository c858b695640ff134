/- The document's reader: a scan of a text. -/
import Derived.Test.YtagkgfniihiinaaGreatDoorJ49
import Derived.Test.YtagkgfniihiinaaGreatDoorJ73
set_option linter.all false
set_option maxHeartbeats 6400000
set_option maxRecDepth 100000
namespace Go.Proofs.YtagkgfniihiinaaGreatDoor
open Go.RowKit
def HeadQ (h:Head) (m:Int) (w:World) (e:Ending) (w' : World):Prop:=match h with
 | .stop q=>StopZ q w e w'
 | .leaf v u=>GotZ v u m w e w'
 | .list _ _ _=>False
theorem longS_cases (L:List UInt8) (k:Nat):(Cd L k=.stop 51/\((k<L.length/\L.getD k 0≠13)\/(k+1<L.length/\L.getD k 0=13/\L.getD (k+1) 0≠10)))\/(Cd L k=.stop 0/\(L.length<=k\/(L.length=k+1/\L.getD k 0=13)))\/(Cd L k=.got (L.take k)/\k+2<=L.length/\L.getD k 0=13/\L.getD (k+1) 0=10):=by
 unfold Cd;generalize L.getD k 0=a;generalize L.getD (k+1) 0=b;split
 ·rename_i h
  left;refine ⟨rfl,?_⟩;rcases h with h | ⟨h1,h2⟩
  ·exact .inl h
  ·by_cases ha:a=13
   ·exact .inr ⟨h1,ha,h2⟩
   ·exact .inl ⟨by omega,ha⟩
 ·rename_i h
  right;have g1:k<L.length->a=13:=fun h1=>Classical.byContradiction fun h2=>h (.inl ⟨h1,h2⟩);have g2:k+1<L.length->b=10:=fun h1=>Classical.byContradiction fun h2=>h (.inr ⟨h1,h2⟩);split
  ·left
   refine ⟨rfl,?_⟩;by_cases h3:L.length<=k
   ·exact .inl h3
   ·exact .inr ⟨by omega,g1 (by omega)⟩
  ·right
   exact ⟨rfl,by omega,g1 (by omega),g2 (by omega)⟩
theorem byte_ne {c d:UInt8} {n:Int} (hd:(d.toNat:Int)=n) (h:c≠d):((c.toNat:Int) == n)=false:=by
 rw [beq_eq_false_iff_ne];intro e;exact h (UInt8.toNat_inj.1 (by omega))
theorem byte_nq {c d:UInt8} {n:Int} (hd:(d.toNat:Int)=n) (h:c≠d):((c.toNat:Int) != n)=true:=by
 simp [bne,byte_ne hd h]
theorem Ex {s:ByteArray} {j:Nat} (h:j<s.size):s.data.toList.getD j 0=s[j]'h:=by
 obtain ⟨hj,e⟩:=get_list h;rw [List.getD_eq_getElem?_getD,List.getElem?_eq_getElem hj,<-e];rfl
theorem scan5_text {w:World} {s:ByteArray} {u:Nat} {t:List UInt8} (h0:0<s.size) (hs:s.size<=1000000) (hk:Ab (s[0]'h0)=4\/Ab (s[0]'h0)=10\/Ab (s[0]'h0)=11) (hl:Az (s.data.toList.drop 1)=.got (t,u)) (hm:¬(t=[45,49]/\(Ab (s[0]'h0)=4\/Ab (s[0]'h0)=5))) {H:Head} (hH:H=(match numS t 4096 with
      | none=>.stop 51
      | some n=>match Cd ((s.data.toList.drop 1).drop u) n with
        | .stop e=>.stop e
        | .got x=>if okV (Ar (Ab (s[0]'h0)) ⟨x.toArray⟩ 0 0 false)=true then .leaf (Ar (Ab (s[0]'h0)) ⟨x.toArray⟩ 0 0 false) (1+u+(n+2)) else .stop 51)) (d m:Int) :
   Calls Tryz.prog 47 #[.string s,.int .i64 d,.int .i64 m] w (HeadQ H m w):=by
 have ak:=hl;have ax:1+u<=s.size:=by
   have h1:=(Bb hl).1;rw [List.length_drop,Array.length_toList] at h1;have h2:s.data.size=s.size:=rfl;omega
 obtain ⟨T2,hT2'⟩:∃T2,T2=s.extract (u+1) s.size:=⟨_,rfl⟩;have y:T2.data.toList=(s.data.toList.drop 1).drop u:=by
   rw [hT2', List.drop_drop,drop_list];congr 1;omega
 have hT2z:T2.size<=1000000:=by rw [hT2', ByteArray.size_extract];omega
 rw [<-y] at hH;have g:T2.data.toList.length=T2.size:=by rw [Array.length_toList];rfl
 have ay:((u+1:Nat):Int)<=(s.size:Int):=by omega
 rw [show (1+u)=u+1 by omega] at hH;obtain ⟨c,hc⟩:∃c,s[0]'h0=c:=⟨_,rfl⟩;rw [hc] at hk;have ad:=Dg c;have h0i:(0:Int)<(s.size:Int):=by omega
 have h1i:(1:Int)<=(s.size:Int):=by omega
 obtain ⟨j1,j3,j4⟩:=Bw h0;obtain ⟨T,hT⟩:∃T,T=s.extract 1 s.size:=⟨_,rfl⟩;have an:T.size<=1000000:=by rw [hT,ByteArray.size_extract];omega
 have p:=D2 an;have ao:T.data.toList=s.data.toList.drop 1:=by rw [hT];exact D1
 have ap:=(Bb hl).1;rw [List.length_drop,Array.length_toList] at ap;have aq:s.data.size=s.size:=rfl;obtain ⟨U,hU⟩:∃U,U=u+1:=⟨_,rfl⟩;have hu1:IntKind.i64.wrap ((u:Int)+1)=(U:Int):=by rw [IntWalk.i64_in _ (by omega)];omega
 try rw [<-hU]
 replace hU:=Hd hU;rw [ao,hl] at p;unfold lineA at p;have hT2:=hT.symm;dsimp only at p;replace p:=Hd p;replace ad:=Hd ad;clear ao hl an hT ap aq;rw [<-hU.out] at hT2' ay hH;have hT29:=hT2'.symm;replace hT2' := Hd hT2';replace y:=Hd y;replace g:=Hd g;clear ax;rw [hc] at hm hH;obtain ⟨k,hkk⟩:∃k,k=Ab c:=⟨_,rfl⟩;rw [<-hkk] at hk ad;try rw [<-hkk] at hm
 try rw [<-hkk] at hp
 try rw [<-hkk] at hH
 try rw [<-hkk] at hnn
 try rw [<-hkk] at h14
 clear hkk;obtain ⟨tb,htb⟩:∃tb:ByteArray,tb=⟨t.toArray⟩:=⟨_,rfl⟩;have z:tb.data.toList=t:=by rw [htb]
 have az:tb.size<=1000000:=by
   have h1:=(Bb ak).2.2;rw [<-z,Array.length_toList] at h1;have h2:tb.data.size=tb.size:=rfl;omega
 rw [<-htb] at p;have ae:((tb.toList == [45,49])=false)\/((tb.toList == [45,49])=true/\((k:Int) == 4)=false/\((k:Int) == 5)=false):=by
   cases h9:(tb.toList == [45,49]) with
   | false=>exact .inl rfl
   | true=>
     refine .inr ⟨rfl,?_⟩;have h8:=eq_of_beq h9;rw [ByteArray.toList_eq,z] at h8;have h7:¬(k=4\/k=5):=fun e=>hm ⟨h8,e⟩;exact ⟨by rw [beq_eq_false_iff_ne];omega,by rw [beq_eq_false_iff_ne];omega⟩
 clear htb;replace ae:=Hd ae;replace hm:=Hd hm;replace z:=Hd z;replace ak:=Hd ak;try replace hH:=Hd hH
 have aa:=fun W=>Ff (w:=W) (t:=tb) (most:=4096) az (by decide);rw [z.out] at aa;have a4:Al (k:Int)=false:=by unfold Al;rw [decide_eq_false_iff_not];omega
 replace aa:=Hd aa;have h2:=Two.start w 0 ⟨#[]⟩ 0 0 false;obtain ⟨W2,hW2⟩:∃W,W=(w.alloc (.cells #[.int .i64 0,.string ⟨#[]⟩,.int .i64 0,.float .f64 0,.bool false,.slice none 0 0] 26)).alloc (.cells #[.int .i64 0,.string ⟨#[]⟩,.int .i64 0,.float .f64 0,.bool false,.slice none 0 0] 26):=⟨_,rfl⟩;rw [<-hW2] at h2;replace hW2:=Hd hW2;replace h2:=Hd h2
 go_enter Tryz.func47,Tryz.ntmps47
 go_upto_region 2 with fail
 rw [<-hW2.out];clear hW2;go_wp2_with fail
 refine (ad.out _).mono ?_;rintro e w3 ⟨rfl,a⟩;have h3:=h2.out;rw [<-a] at h3;clear h2 a;go_wp2_with fail
 refine (p.out _).mono ?_;rintro e w3 ⟨rfl,a⟩;rw [<-a] at h3;clear a;replace h3:=Hd h3;go_upto_region 11 with fail
 go_cut [59] from 51 to 59 (fun s5 wx=>s5=.bool false/\wx=w3)
 case first=>
   rcases ae.out with y1 | ⟨y1,c4,c5⟩
   · go_wp2_with fail
     go_meet
     exact ⟨rfl,rfl⟩
   · go_wp2_with fail
     go_meet
     exact ⟨rfl,rfl⟩
 obtain ⟨rfl,a⟩:=hcut;obtain rfl:=a.symm;clear a;clear ae;go_upto_region 13 with fail
 go_cut [72] from 64 to 72 (fun s5 wx=>s5=.bool true/\wx=w3)
 case first=>
   rcases hk with rfl | rfl | rfl
   · go_wp2_with fail
     go_meet
     exact ⟨rfl,rfl⟩
   · go_wp2_with fail
     go_meet
     exact ⟨rfl,rfl⟩
   · go_wp2_with fail
     go_meet
     exact ⟨rfl,rfl⟩
 obtain ⟨rfl,a⟩:=hcut;obtain rfl:=a.symm;clear a;go_wp2_with fail
 refine (aa.out _).mono ?_;rintro e w4 ⟨rfl,hb⟩;have h4:=h3.out.move hb;clear h3 hb aa;obtain ⟨w3,hw3⟩:∃w3,w3=w4:=⟨_,rfl⟩;rw [<-hw3] at h4 ⊢;clear hw3;have h3:=h4;clear h4;unfold numI;cases hn:numS t 4096 with
 | none=>
   dsimp only;have l:=hH.out;rw [hn] at l;subst l;clear hH;replace h3:=Hd h3;go_upto_region 16 with fail
   go_cut [105] from 79 to 105 (fun s5 wx=>s5=.bool true/\wx=w3)
   case first=>
     go_wp2_with fail
     go_meet
     exact ⟨rfl,rfl⟩
   obtain ⟨rfl,a⟩:=hcut;obtain rfl:=a.symm;clear a;have h3:=h3.out;have b:(w3.setCells w.heap.size 0 [.int .i64 0,.string (⟨#[]⟩:ByteArray),.int .i64 0,.float .f64 0,.bool false,.slice none 0 0]).rangeAt w.heap.size 0 [.int .i64 0,.string (⟨#[]⟩:ByteArray),.int .i64 0,.float .f64 0,.bool false,.slice none 0 0]:=
     World.rangeAt_setCells_same _ _ _ _ (Af (n:=6) h3.zero h3.blk rfl)
   have o:=Hd (Af (n:=6) h3.zero h3.blk rfl);have q:=Hd (h3.full);have f:Below w.heap.size w (w3.setCells w.heap.size 0 [.int .i64 0,.string (⟨#[]⟩:ByteArray),.int .i64 0,.float .f64 0,.bool false,.slice none 0 0]):=
     h3.below.trans ((Fr.setCells (S:=fun k=>k=w.heap.size) (fun _=>rfl) _ _ _ (Fr.refl _ w3)).below h3.below.size (fun i hi h=>by omega))
   replace b:=Hd b;replace f:=Hd f;replace h3:=Hd h3
   go_wp2_with (first
     | (refine wpList_load_mid rfl 26 _ rfl (w.heap.size+1) 0 rfl _ _ q.out Tryz.underlying26 rfl Ad ?_)
     | (refine wpList_store_mid rfl 26 _ _ rfl w.heap.size 0 _ rfl rfl o.out Ad (one6 _ _ _ _ _ _ _ _) ?_))
   refine bodyPost_ret (As (v:=.agg #[.int .i64 0,.string (⟨#[]⟩:ByteArray),.int .i64 0,.float .f64 0,.bool false,.slice none 0 0]) rfl rfl (run_loadVar_mid (P:=Tryz.prog) _ _ 0 26 _ _ b.out Tryz.underlying26 rfl Ad)) rfl ?_;exact ⟨0,0,rfl,f.out⟩
 | some n=>
   dsimp only;have hn4:=numS_leG hn;have l:=hH.out;rw [hn] at l;dsimp only at l;clear hn hH;replace l:=Hd l;have hw1:IntKind.i64.wrap ((n:Int)+1)=((n+1:Nat):Int):=by rw [IntWalk.i64_in _ (by omega)];omega
   have hw2:IntKind.i64.wrap ((n:Int)+2)=((n+2:Nat):Int):=by rw [IntWalk.i64_in _ (by omega)];omega
   have hn0:¬(n:Int)<0:=by omega
   replace h3:=Hd h3;go_upto_region 16 with fail
   rcases longS_cases T2.data.toList n with ⟨e,aj⟩ | ⟨e,av⟩ | ⟨e,a1,a2,a3⟩
   · have j:=l.out
     rw [e] at j;subst j;clear l;replace e:=Hd e
     go_cut [105] from 79 to 105 (fun s5 wx=>s5=.bool true/\wx=w3)
     case first=>
       rcases aj with ⟨a1,a2⟩ | ⟨a1,a2,a3⟩
       · rw [g.out] at a1
         rw [Ex a1] at a2;have i1:(n:Int)<(T2.size:Int):=by omega
         obtain ⟨b1,hb1⟩:∃b1,T2[n]'a1=b1:=⟨_,rfl⟩;rw [hb1] at a2;have j1:=byte_nq (d:=13) (n:=13) rfl a2;have j9:=byte_ne (d:=13) (n:=13) rfl a2;clear a2;by_cases i2:n+1<T2.size
         · have af:((n+1:Nat):Int)<(T2.size:Int):=by omega
           go_wp2_with fail
           go_meet
           exact ⟨rfl,rfl⟩
         · have af:¬((n+1:Nat):Int)<(T2.size:Int):=by omega
           go_wp2_with fail
           go_meet
           exact ⟨rfl,rfl⟩
       · have a0:n<T2.size:=by have:=g.out;omega
         rw [g.out] at a1;rw [Ex a0] at a2;rw [Ex a1] at a3;have i1:(n:Int)<(T2.size:Int):=by omega
         have af:((n+1:Nat):Int)<(T2.size:Int):=by omega
         obtain ⟨b1,hb1⟩:∃b1,T2[n]'a0=b1:=⟨_,rfl⟩;obtain ⟨b2,hb2⟩:∃b2,T2[n+1]'a1=b2:=⟨_,rfl⟩;rw [hb1] at a2;rw [hb2] at a3;have j1:((b1.toNat:Int) != 13)=false:=by rw [a2];rfl
         have j9:((b1.toNat:Int) == 13)=true:=by rw [a2];rfl
         have j2:=byte_nq (d:=10) (n:=10) rfl a3;have j8:=byte_ne (d:=10) (n:=10) rfl a3;clear a2 a3;go_wp2_with fail
         go_meet
         exact ⟨rfl,rfl⟩
     obtain ⟨rfl,a⟩:=hcut;obtain rfl:=a.symm;clear a;clear aj;have h3:=h3.out;have b:(w3.setCells w.heap.size 0 [.int .i64 0,.string (⟨#[]⟩:ByteArray),.int .i64 0,.float .f64 0,.bool false,.slice none 0 0]).rangeAt w.heap.size 0 [.int .i64 0,.string (⟨#[]⟩:ByteArray),.int .i64 0,.float .f64 0,.bool false,.slice none 0 0]:=
       World.rangeAt_setCells_same _ _ _ _ (Af (n:=6) h3.zero h3.blk rfl)
     have o:=Hd (Af (n:=6) h3.zero h3.blk rfl);have q:=Hd (h3.full);have f:Below w.heap.size w (w3.setCells w.heap.size 0 [.int .i64 0,.string (⟨#[]⟩:ByteArray),.int .i64 0,.float .f64 0,.bool false,.slice none 0 0]):=
       h3.below.trans ((Fr.setCells (S:=fun k=>k=w.heap.size) (fun _=>rfl) _ _ _ (Fr.refl _ w3)).below h3.below.size (fun i hi h=>by omega))
     replace b:=Hd b;replace f:=Hd f;replace h3:=Hd h3
     go_wp2_with (first
       | (refine wpList_load_mid rfl 26 _ rfl (w.heap.size+1) 0 rfl _ _ q.out Tryz.underlying26 rfl Ad ?_)
       | (refine wpList_store_mid rfl 26 _ _ rfl w.heap.size 0 _ rfl rfl o.out Ad (one6 _ _ _ _ _ _ _ _) ?_))
     refine bodyPost_ret (As (v:=.agg #[.int .i64 0,.string (⟨#[]⟩:ByteArray),.int .i64 0,.float .f64 0,.bool false,.slice none 0 0]) rfl rfl (run_loadVar_mid (P:=Tryz.prog) _ _ 0 26 _ _ b.out Tryz.underlying26 rfl Ad)) rfl ?_;exact ⟨0,0,rfl,f.out⟩
   · have j:=l.out
     rw [e] at j;subst j;clear l;replace e:=Hd e;have i3:(T2.size:Int)<((n+2:Nat):Int):=by have:=g.out;omega
     have af:¬((n+1:Nat):Int)<(T2.size:Int):=by have:=g.out;omega
     go_cut [105] from 79 to 105 (fun s5 wx=>s5=.bool false/\wx=w3)
     case first=>
       rcases av with a1 | ⟨a1,a2⟩
       · rw [g.out] at a1
         have i1:¬(n:Int)<(T2.size:Int):=by omega
         go_wp2_with fail
         go_meet
         exact ⟨rfl,rfl⟩
       · have a0:n<T2.size:=by have:=g.out;omega
         rw [Ex a0] at a2;have i1:(n:Int)<(T2.size:Int):=by omega
         obtain ⟨b1,hb1⟩:∃b1,T2[n]'a0=b1:=⟨_,rfl⟩;rw [hb1] at a2;have j1:((b1.toNat:Int) != 13)=false:=by rw [a2];rfl
         have j9:((b1.toNat:Int) == 13)=true:=by rw [a2];rfl
         clear a2;go_wp2_with fail
         go_meet
         exact ⟨rfl,rfl⟩
     obtain ⟨rfl,a⟩:=hcut;obtain rfl:=a.symm;clear a;clear av;have h3:=h3.out;have b:(w3.setCells w.heap.size 0 [.int .i64 0,.string (⟨#[]⟩:ByteArray),.int .i64 0,.float .f64 0,.bool false,.slice none 0 0]).rangeAt w.heap.size 0 [.int .i64 0,.string (⟨#[]⟩:ByteArray),.int .i64 0,.float .f64 0,.bool false,.slice none 0 0]:=
       World.rangeAt_setCells_same _ _ _ _ (Af (n:=6) h3.zero h3.blk rfl)
     have o:=Hd (Af (n:=6) h3.zero h3.blk rfl);have q:=Hd (h3.full);have f:Below w.heap.size w (w3.setCells w.heap.size 0 [.int .i64 0,.string (⟨#[]⟩:ByteArray),.int .i64 0,.float .f64 0,.bool false,.slice none 0 0]):=
       h3.below.trans ((Fr.setCells (S:=fun k=>k=w.heap.size) (fun _=>rfl) _ _ _ (Fr.refl _ w3)).below h3.below.size (fun i hi h=>by omega))
     replace b:=Hd b;replace f:=Hd f;replace h3:=Hd h3
     go_wp2_with (first
       | (refine wpList_load_mid rfl 26 _ rfl (w.heap.size+1) 0 rfl _ _ q.out Tryz.underlying26 rfl Ad ?_)
       | (refine wpList_store_mid rfl 26 _ _ rfl w.heap.size 0 _ rfl rfl o.out Ad (one6 _ _ _ _ _ _ _ _) ?_))
     refine bodyPost_ret (As (v:=.agg #[.int .i64 0,.string (⟨#[]⟩:ByteArray),.int .i64 0,.float .f64 0,.bool false,.slice none 0 0]) rfl rfl (run_loadVar_mid (P:=Tryz.prog) _ _ 0 26 _ _ b.out Tryz.underlying26 rfl Ad)) rfl ?_;exact ⟨0,0,rfl,f.out⟩
   · have j:=l.out
     rw [e] at j;dsimp only at j;clear l;have a0:n<T2.size:=by have:=g.out;omega
     have ar:n+1<T2.size:=by have:=g.out;omega
     rw [g.out] at a1;rw [Ex a0] at a2;rw [Ex ar] at a3;have i1:(n:Int)<(T2.size:Int):=by omega
     have i1e:(n:Int)<=(T2.size:Int):=by omega
     have af:((n+1:Nat):Int)<(T2.size:Int):=by omega
     have i3:¬(T2.size:Int)<((n+2:Nat):Int):=by omega
     obtain ⟨b1,hb1⟩:∃b1,T2[n]'a0=b1:=⟨_,rfl⟩;obtain ⟨b2,hb2⟩:∃b2,T2[n+1]'ar=b2:=⟨_,rfl⟩;rw [hb1] at a2;rw [hb2] at a3;have j1:((b1.toNat:Int) != 13)=false:=by rw [a2];rfl
     have j9:((b1.toNat:Int) == 13)=true:=by rw [a2];rfl
     have j2:((b2.toNat:Int) != 10)=false:=by rw [a3];rfl
     have j8:((b2.toNat:Int) == 10)=true:=by rw [a3];rfl
     clear a2 a3;obtain ⟨X,hX⟩:∃X:ByteArray,X=⟨(T2.data.toList.take n).toArray⟩:=⟨_,rfl⟩;have a5:T2.extract 0 n=X:=by
       rw [hX];exact ByteArray.ext (Array.ext' (by rw [ByteArray.data_extract,Array.toList_extract,List.extract_eq_take_drop,List.drop_zero,Nat.sub_zero]))
     have a6:X.size<=9223372036854775807:=by rw [<-a5,ByteArray.size_extract];omega
     rw [<-hX] at j;replace hX:=Hd hX;have ab:=fun W=>rleaf_any (k:Int) X 0 0 false a4 a6 W;obtain ⟨ok,hok⟩:∃ok,ok=okV (Ar (k:Int) X 0 0 false):=⟨_,rfl⟩;rw [<-hok] at ab j;replace j:=Hd j;replace ab:=Hd ab;replace hok:=Hd hok;replace e:=Hd e;have hUi:(U:Int)<=1000000:=by omega
     have hw4:IntKind.i64.wrap ((U:Int)+(n:Int))=((U+n:Nat):Int):=by rw [IntWalk.i64_in _ (by omega)];omega
     have hw5:IntKind.i64.wrap (((U+n:Nat):Int)+2)=((U+(n+2):Nat):Int):=by rw [IntWalk.i64_in _ (by omega)];omega
     go_cut [105] from 79 to 105 (fun s5 wx=>s5=.bool false/\wx=w3)
     case first=>
       go_wp2_with fail
       go_meet
       exact ⟨rfl,rfl⟩
     obtain ⟨rfl,a⟩:=hcut;obtain rfl:=a.symm;clear a;have au:=Hd (A4 w3 26);have al:=Hd (B5 w3 26 [.int .i64 (k:Int),.string X,.int .i64 0,.float .f64 0,.bool false,.slice none 0 0] rfl);have ah:True:=trivial;go_upto_region 21 with (have _t:=ah;refine wpList_store_mid rfl 26 _ _ rfl w3.heap.size 0 _ rfl rfl au.out Ad (one6 _ _ _ _ _ _ _ _) ?_;clear ah _t)
     generalize (w3.alloc (.cells #[Value.int .i64 0,.string ⟨#[]⟩,.int .i64 0,.float .f64 0,.bool false,.slice none 0 0] 26)).setCells w3.heap.size 0 [Value.int .i64 (k:Int),.string X,.int .i64 0,.float .f64 0,.bool false,.slice none 0 0]=w5 at al ⊢;obtain ⟨aw,r,_⟩:=al.out;have h5:=h3.out.move aw;obtain ⟨G,hG⟩:∃G,G=w3.heap.size:=⟨_,rfl⟩;rw [<-hG] at r ⊢;clear al au h3 aw;replace r:=Hd r;replace h5:=Hd h5;replace hG:=Hd hG;have ai:True:=trivial;go_wp2_with (have _t:=ai;refine wpList_load_mid rfl 26 _ rfl G 0 rfl _ _ r.out Tryz.underlying26 rfl Ad ?_;clear ai _t)
     refine (ab.out _).mono ?_;rintro e w6 ⟨rfl,am⟩;have h3:=h5.out.move am;have ag:=Aj am r.out;clear h5 r am ab;obtain ⟨w3,hw3⟩:∃w3,w3=w6:=⟨_,rfl⟩;rw [<-hw3] at h3 ag ⊢;clear hw3;cases ok with
     | false=>
       have ac:=j.out;rw [if_neg (by decide)] at ac;subst ac;clear j;have b:(w3.setCells w.heap.size 0 [.int .i64 0,.string (⟨#[]⟩:ByteArray),.int .i64 0,.float .f64 0,.bool false,.slice none 0 0]).rangeAt w.heap.size 0 [.int .i64 0,.string (⟨#[]⟩:ByteArray),.int .i64 0,.float .f64 0,.bool false,.slice none 0 0]:=
         World.rangeAt_setCells_same _ _ _ _ (Af (n:=6) h3.zero h3.blk rfl)
       have o:=Hd (Af (n:=6) h3.zero h3.blk rfl);have q:=Hd (h3.full);have f:Below w.heap.size w (w3.setCells w.heap.size 0 [.int .i64 0,.string (⟨#[]⟩:ByteArray),.int .i64 0,.float .f64 0,.bool false,.slice none 0 0]):=
         h3.below.trans ((Fr.setCells (S:=fun k=>k=w.heap.size) (fun _=>rfl) _ _ _ (Fr.refl _ w3)).below h3.below.size (fun i hi h=>by omega))
       replace b:=Hd b;replace f:=Hd f;replace h3:=Hd h3
       go_wp2_with (first
         | (refine wpList_load_mid rfl 26 _ rfl (w.heap.size+1) 0 rfl _ _ q.out Tryz.underlying26 rfl Ad ?_)
         | (refine wpList_store_mid rfl 26 _ _ rfl w.heap.size 0 _ rfl rfl o.out Ad (one6 _ _ _ _ _ _ _ _) ?_))
       refine bodyPost_ret (As (v:=.agg #[.int .i64 0,.string (⟨#[]⟩:ByteArray),.int .i64 0,.float .f64 0,.bool false,.slice none 0 0]) rfl rfl (run_loadVar_mid (P:=Tryz.prog) _ _ 0 26 _ _ b.out Tryz.underlying26 rfl Ad)) rfl ?_;exact ⟨0,0,rfl,f.out⟩
     | true=>
       have ac:=j.out;rw [if_pos rfl] at ac;subst ac;clear j;replace ag:=Hd ag;have b:(w3.setCells w.heap.size 0 [.int .i64 k,.string X,.int .i64 0,.float .f64 0,.bool false,.slice none 0 0]).rangeAt w.heap.size 0 [.int .i64 k,.string X,.int .i64 0,.float .f64 0,.bool false,.slice none 0 0]:=
         World.rangeAt_setCells_same _ _ _ _ (Af (n:=6) h3.zero h3.blk rfl)
       have o:=Hd (Af (n:=6) h3.zero h3.blk rfl);have f:Below w.heap.size w (w3.setCells w.heap.size 0 [.int .i64 k,.string X,.int .i64 0,.float .f64 0,.bool false,.slice none 0 0]):=
         h3.below.trans ((Fr.setCells (S:=fun k=>k=w.heap.size) (fun _=>rfl) _ _ _ (Fr.refl _ w3)).below h3.below.size (fun i hi h=>by omega))
       replace b:=Hd b;replace f:=Hd f;replace h3:=Hd h3
       go_wp2_with (first
         | (refine wpList_load_mid rfl 26 _ rfl G 0 rfl _ _ ag.out Tryz.underlying26 rfl Ad ?_)
         | (refine wpList_store_mid rfl 26 _ _ rfl w.heap.size 0 _ rfl rfl o.out Ad (one6 _ _ _ _ _ _ _ _) ?_))
       refine bodyPost_ret (As (v:=.agg #[.int .i64 k,.string X,.int .i64 0,.float .f64 0,.bool false,.slice none 0 0]) rfl rfl (run_loadVar_mid (P:=Tryz.prog) _ _ 0 26 _ _ b.out Tryz.underlying26 rfl Ad)) rfl ?_;exact ⟨by first | rfl | simp [Ar,V.kind,V.text,V.int,V.real,V.flag],f.out⟩
theorem scan5_single {w:World} {s:ByteArray} {u:Nat} {t:List UInt8} {o:Option Nat} (h0:0<s.size) (hs:s.size<=1000000) (hk:Ab (s[0]'h0)=1\/Ab (s[0]'h0)=2\/Ab (s[0]'h0)=9\/Ab (s[0]'h0)=3\/Ab (s[0]'h0)=7\/Ab (s[0]'h0)=8\/Ab (s[0]'h0)=6) (hl:Az (s.data.toList.drop 1)=.got (t,u))
  (hp:Ab (s[0]'h0)=7->∀W,Below w.heap.size w W->Calls Tryz.prog 92 #[.string ⟨t.toArray⟩] W fun e w' => e=ParE o/\Below W.heap.size W w') {H:Head} (hH:H=(match Bm o (Ab (s[0]'h0)) ⟨t.toArray⟩ with
   | none=>.stop 51
   | some v=>if okV v=true then .leaf v (1+u) else .stop 51)) (d m:Int) :
  Calls Tryz.prog 47 #[.string s,.int .i64 d,.int .i64 m] w (HeadQ H m w):=by
 have af:=hl;have hm:¬(t=[45,49]/\(Ab (s[0]'h0)=4\/Ab (s[0]'h0)=5)):=by omega
 rw [show (1+u)=u+1 by omega] at hH;obtain ⟨c,hc⟩:∃c,s[0]'h0=c:=⟨_,rfl⟩;rw [hc] at hk;have ad:=Dg c;have h0i:(0:Int)<(s.size:Int):=by omega
 have h1i:(1:Int)<=(s.size:Int):=by omega
 obtain ⟨j1,j3,j4⟩:=Bw h0;obtain ⟨T,hT⟩:∃T,T=s.extract 1 s.size:=⟨_,rfl⟩;have ag:T.size<=1000000:=by rw [hT,ByteArray.size_extract];omega
 have q:=D2 ag;have ah:T.data.toList=s.data.toList.drop 1:=by rw [hT];exact D1
 have ai:=(Bb hl).1;rw [List.length_drop,Array.length_toList] at ai;have aj:s.data.size=s.size:=rfl;obtain ⟨U,hU⟩:∃U,U=u+1:=⟨_,rfl⟩;have hu1:IntKind.i64.wrap ((u:Int)+1)=(U:Int):=by rw [IntWalk.i64_in _ (by omega)];omega
 try rw [<-hU]
 replace hU:=Hd hU;rw [ah,hl] at q;unfold lineA at q;have hT2:=hT.symm;dsimp only at q;replace q:=Hd q;replace ad:=Hd ad;clear ah hl ag hT ai aj;rw [<-hU.out,hc] at hH;rw [hc] at hm hp;obtain ⟨tb2,htb2⟩:∃tb:ByteArray,tb=⟨t.toArray⟩:=⟨_,rfl⟩;rw [<-htb2] at hp hH;obtain ⟨k,hkk⟩:∃k,k=Ab c:=⟨_,rfl⟩;rw [<-hkk] at hk ad;try rw [<-hkk] at hm
 try rw [<-hkk] at hp
 try rw [<-hkk] at hH
 try rw [<-hkk] at hnn
 try rw [<-hkk] at h14
 clear hkk;obtain ⟨tb,htb⟩:∃tb:ByteArray,tb=⟨t.toArray⟩:=⟨_,rfl⟩;have z:tb.data.toList=t:=by rw [htb]
 have ak:tb.size<=1000000:=by
  have h1:=(Bb af).2.2;rw [<-z,Array.length_toList] at h1;have h2:tb.data.size=tb.size:=rfl;omega
 rw [<-htb] at q;have aa:((tb.toList == [45,49])=false)\/((tb.toList == [45,49])=true/\((k:Int) == 4)=false/\((k:Int) == 5)=false):=by
  cases h9:(tb.toList == [45,49]) with
  | false=>exact .inl rfl
  | true=>
   refine .inr ⟨rfl,?_⟩;have h8:=eq_of_beq h9;rw [ByteArray.toList_eq,z] at h8;have h7:¬(k=4\/k=5):=fun e=>hm ⟨h8,e⟩;exact ⟨by rw [beq_eq_false_iff_ne];omega,by rw [beq_eq_false_iff_ne];omega⟩
 clear htb;replace aa:=Hd aa;replace hm:=Hd hm;replace z:=Hd z;replace af:=Hd af;try replace hH:=Hd hH
 have e2:tb=tb2:=by rw [htb2];exact ByteArray.ext (Array.ext' (by rw [z.out]))
 rw [e2] at q aa ak;have ae:=fun (W:World) (hW:Below w.heap.size w W)=>sing_any (w:=W) (k:=k) (t:=tb2) (o:=o) hk ak (fun h7 W' hW' => hp h7 W' (hW.trans (hW'.mono hW.size)));clear e2 htb2;have ab:=Bk (k:Int);have al:Al (k:Int)=false:=by unfold Al;rw [decide_eq_false_iff_not];omega
 rw [al] at ab;replace ab:=Hd ab;replace ae:=Hd ae;clear hp;have h2:=Two.start w 0 ⟨#[]⟩ 0 0 false;obtain ⟨W2,hW2⟩:∃W,W=(w.alloc (.cells #[.int .i64 0,.string ⟨#[]⟩,.int .i64 0,.float .f64 0,.bool false,.slice none 0 0] 26)).alloc (.cells #[.int .i64 0,.string ⟨#[]⟩,.int .i64 0,.float .f64 0,.bool false,.slice none 0 0] 26):=⟨_,rfl⟩;rw [<-hW2] at h2;replace hW2:=Hd hW2;replace h2:=Hd h2
 go_enter Tryz.func47,Tryz.ntmps47
 go_upto_region 2 with fail
 rw [<-hW2.out];clear hW2;go_wp2_with fail
 refine (ad.out _).mono ?_;rintro e w3 ⟨rfl,b⟩;have h3:=h2.out;rw [<-b] at h3;clear h2 b;go_wp2_with fail
 refine (q.out _).mono ?_;rintro e w3 ⟨rfl,b⟩;rw [<-b] at h3;clear b;replace h3:=Hd h3;go_upto_region 11 with fail
 go_cut [59] from 51 to 59 (fun s5 wx=>s5=.bool false/\wx=w3)
 case first=>
  rcases aa.out with y1 | ⟨y1,c4,c5⟩
  ·go_wp2_with fail
   go_meet
   exact ⟨rfl,rfl⟩
  ·go_wp2_with fail
   go_meet
   exact ⟨rfl,rfl⟩
 obtain ⟨rfl,b⟩:=hcut;obtain rfl:=b.symm;clear b;clear aa;go_upto_region 13 with fail
 go_cut [72] from 64 to 72 (fun s5 wx=>s5=.bool false/\wx=w3)
 case first=>
  have c4:((k:Int) == 4)=false:=by rw [beq_eq_false_iff_ne];omega
  have c10:((k:Int) == 10)=false:=by rw [beq_eq_false_iff_ne];omega
  have c11:((k:Int) == 11)=false:=by rw [beq_eq_false_iff_ne];omega
  go_wp2_with fail
  go_meet
  exact ⟨rfl,rfl⟩
 obtain ⟨rfl,b⟩:=hcut;obtain rfl:=b.symm;clear b;replace hk:=Hd hk;go_wp2_with fail
 refine (ab.out _).mono ?_;rintro e w4 ⟨rfl,b⟩;obtain rfl:=b.symm;clear b ab;go_wp2_with fail
 refine (ae.out _ h3.out.below).mono ?_;rintro e w4 ⟨he,hb⟩;have h4:=h3.out.move hb;clear h3 hb ae;obtain ⟨w3,hw3⟩:∃w3,w3=w4:=⟨_,rfl⟩;rw [<-hw3] at h4 ⊢;clear hw3;have h3:=h4;clear h4;cases ho:Bm o k tb2 with
 | none=>
  rw [ho] at he;have p:=hH.out;rw [ho] at p;subst p;clear ho hH;obtain rfl:e=.returned (.tuple #[.agg #[.int .i64 0,.string ⟨#[]⟩,.int .i64 0,.float .f64 0,.bool false,.slice none 0 0],.int .i64 2]):=he;have r:=Hd (A4 w3 26);have g:=Hd (B5 w3 26 [.int .i64 0,.string ⟨#[]⟩,.int .i64 0,.float .f64 0,.bool false,.slice none 0 0] rfl);replace h3:=Hd h3;have f:True:=trivial;go_upto_region 26 with (have _t:=f;refine wpList_store_mid rfl 26 _ _ rfl w3.heap.size 0 _ rfl rfl r.out Ad (one6 _ _ _ _ _ _ _ _) ?_;clear f _t)
  generalize (w3.alloc (.cells #[Value.int .i64 0,.string ⟨#[]⟩,.int .i64 0,.float .f64 0,.bool false,.slice none 0 0] 26)).setCells w3.heap.size 0 [Value.int .i64 0,.string ⟨#[]⟩,.int .i64 0,.float .f64 0,.bool false,.slice none 0 0]=w5 at g ⊢;obtain ⟨y,a,_⟩:=g.out;have h5:=h3.out.move y;obtain ⟨G,hG⟩:∃G,G=w3.heap.size:=⟨_,rfl⟩;rw [<-hG] at a ⊢;clear g r h3 y;obtain ⟨w3,hw3⟩:∃w3,w3=w5:=⟨_,rfl⟩;rw [<-hw3] at h5 a ⊢;clear hw3;have h3:=h5;clear h5;replace a:=Hd a;replace hG:=Hd hG;have j:(w3.setCells w.heap.size 0 [.int .i64 0,.string ⟨#[]⟩,.int .i64 0,.float .f64 0,.bool false,.slice none 0 0]).rangeAt w.heap.size 0 [.int .i64 0,.string ⟨#[]⟩,.int .i64 0,.float .f64 0,.bool false,.slice none 0 0]:=
   World.rangeAt_setCells_same _ _ _ _ (Af (n:=6) h3.zero h3.blk rfl)
  have ac:=Hd (Af (n:=6) h3.zero h3.blk rfl);have l:Below w.heap.size w (w3.setCells w.heap.size 0 [.int .i64 0,.string ⟨#[]⟩,.int .i64 0,.float .f64 0,.bool false,.slice none 0 0]):=
   h3.below.trans ((Fr.setCells (S:=fun k=>k=w.heap.size) (fun _=>rfl) _ _ _ (Fr.refl _ w3)).below h3.below.size (fun i hi h=>by omega))
  replace j:=Hd j;replace l:=Hd l;replace h3:=Hd h3
  go_wp2_with (first
   | (refine wpList_load_mid rfl 26 _ rfl G 0 rfl _ _ a.out Tryz.underlying26 rfl Ad ?_)
   | (refine wpList_store_mid rfl 26 _ _ rfl w.heap.size 0 _ rfl rfl ac.out Ad (one6 _ _ _ _ _ _ _ _) ?_))
  refine bodyPost_ret (As (v:=.agg #[.int .i64 0,.string ⟨#[]⟩,.int .i64 0,.float .f64 0,.bool false,.slice none 0 0]) rfl rfl (run_loadVar_mid (P:=Tryz.prog) _ _ 0 26 _ _ j.out Tryz.underlying26 rfl Ad)) rfl ?_;exact ⟨_,_,rfl,l.out⟩
 | some v=>
  rw [ho] at he;have p:=hH.out;rw [ho] at p;dsimp only at p;clear hH;by_cases ok:okV v=true
  ·rw [if_pos ok] at p
   subst p;obtain rfl:e=.returned (.tuple #[.agg #[.int .i64 v.kind,.string v.text,.int .i64 v.int,.float .f64 v.real,.bool v.flag,.slice none 0 0],.int .i64 0]):=by
    rw [he];unfold singA;dsimp only;rw [if_pos ok]
   clear he;replace ok:=Hd ok;replace ho:=Hd ho;have r:=Hd (A4 w3 26);have g:=Hd (B5 w3 26 [.int .i64 v.kind,.string v.text,.int .i64 v.int,.float .f64 v.real,.bool v.flag,.slice none 0 0] rfl);replace h3:=Hd h3;have f:True:=trivial;go_upto_region 26 with (have _t:=f;refine wpList_store_mid rfl 26 _ _ rfl w3.heap.size 0 _ rfl rfl r.out Ad (one6 _ _ _ _ _ _ _ _) ?_;clear f _t)
   generalize (w3.alloc (.cells #[Value.int .i64 0,.string ⟨#[]⟩,.int .i64 0,.float .f64 0,.bool false,.slice none 0 0] 26)).setCells w3.heap.size 0 [Value.int .i64 v.kind,.string v.text,.int .i64 v.int,.float .f64 v.real,.bool v.flag,.slice none 0 0]=w5 at g ⊢;obtain ⟨y,a,_⟩:=g.out;have h5:=h3.out.move y;obtain ⟨G,hG⟩:∃G,G=w3.heap.size:=⟨_,rfl⟩;rw [<-hG] at a ⊢;clear g r h3 y;obtain ⟨w3,hw3⟩:∃w3,w3=w5:=⟨_,rfl⟩;rw [<-hw3] at h5 a ⊢;clear hw3;have h3:=h5;clear h5;replace a:=Hd a;replace hG:=Hd hG;have j:(w3.setCells w.heap.size 0 [.int .i64 v.kind,.string v.text,.int .i64 v.int,.float .f64 v.real,.bool v.flag,.slice none 0 0]).rangeAt w.heap.size 0 [.int .i64 v.kind,.string v.text,.int .i64 v.int,.float .f64 v.real,.bool v.flag,.slice none 0 0]:=
    World.rangeAt_setCells_same _ _ _ _ (Af (n:=6) h3.zero h3.blk rfl)
   have ac:=Hd (Af (n:=6) h3.zero h3.blk rfl);have l:Below w.heap.size w (w3.setCells w.heap.size 0 [.int .i64 v.kind,.string v.text,.int .i64 v.int,.float .f64 v.real,.bool v.flag,.slice none 0 0]):=
    h3.below.trans ((Fr.setCells (S:=fun k=>k=w.heap.size) (fun _=>rfl) _ _ _ (Fr.refl _ w3)).below h3.below.size (fun i hi h=>by omega))
   replace j:=Hd j;replace l:=Hd l;replace h3:=Hd h3
   go_wp2_with (first
    | (refine wpList_load_mid rfl 26 _ rfl G 0 rfl _ _ a.out Tryz.underlying26 rfl Ad ?_)
    | (refine wpList_store_mid rfl 26 _ _ rfl w.heap.size 0 _ rfl rfl ac.out Ad (one6 _ _ _ _ _ _ _ _) ?_))
   refine bodyPost_ret (As (v:=.agg #[.int .i64 v.kind,.string v.text,.int .i64 v.int,.float .f64 v.real,.bool v.flag,.slice none 0 0]) rfl rfl (run_loadVar_mid (P:=Tryz.prog) _ _ 0 26 _ _ j.out Tryz.underlying26 rfl Ad)) rfl ?_;exact ⟨rfl,l.out⟩
  ·rw [if_neg ok] at p
   subst p;obtain rfl:e=.returned (.tuple #[.agg #[.int .i64 0,.string ⟨#[]⟩,.int .i64 0,.float .f64 0,.bool false,.slice none 0 0],.int .i64 2]):=by
    rw [he];unfold singA;dsimp only;rw [if_neg ok]
   clear he;replace ok:=Hd ok;replace ho:=Hd ho;have r:=Hd (A4 w3 26);have g:=Hd (B5 w3 26 [.int .i64 0,.string ⟨#[]⟩,.int .i64 0,.float .f64 0,.bool false,.slice none 0 0] rfl);replace h3:=Hd h3;have f:True:=trivial;go_upto_region 26 with (have _t:=f;refine wpList_store_mid rfl 26 _ _ rfl w3.heap.size 0 _ rfl rfl r.out Ad (one6 _ _ _ _ _ _ _ _) ?_;clear f _t)
   generalize (w3.alloc (.cells #[Value.int .i64 0,.string ⟨#[]⟩,.int .i64 0,.float .f64 0,.bool false,.slice none 0 0] 26)).setCells w3.heap.size 0 [Value.int .i64 0,.string ⟨#[]⟩,.int .i64 0,.float .f64 0,.bool false,.slice none 0 0]=w5 at g ⊢;obtain ⟨y,a,_⟩:=g.out;have h5:=h3.out.move y;obtain ⟨G,hG⟩:∃G,G=w3.heap.size:=⟨_,rfl⟩;rw [<-hG] at a ⊢;clear g r h3 y;obtain ⟨w3,hw3⟩:∃w3,w3=w5:=⟨_,rfl⟩;rw [<-hw3] at h5 a ⊢;clear hw3;have h3:=h5;clear h5;replace a:=Hd a;replace hG:=Hd hG;have j:(w3.setCells w.heap.size 0 [.int .i64 0,.string ⟨#[]⟩,.int .i64 0,.float .f64 0,.bool false,.slice none 0 0]).rangeAt w.heap.size 0 [.int .i64 0,.string ⟨#[]⟩,.int .i64 0,.float .f64 0,.bool false,.slice none 0 0]:=
    World.rangeAt_setCells_same _ _ _ _ (Af (n:=6) h3.zero h3.blk rfl)
   have ac:=Hd (Af (n:=6) h3.zero h3.blk rfl);have l:Below w.heap.size w (w3.setCells w.heap.size 0 [.int .i64 0,.string ⟨#[]⟩,.int .i64 0,.float .f64 0,.bool false,.slice none 0 0]):=
    h3.below.trans ((Fr.setCells (S:=fun k=>k=w.heap.size) (fun _=>rfl) _ _ _ (Fr.refl _ w3)).below h3.below.size (fun i hi h=>by omega))
   replace j:=Hd j;replace l:=Hd l;replace h3:=Hd h3
   go_wp2_with (first
    | (refine wpList_load_mid rfl 26 _ rfl G 0 rfl _ _ a.out Tryz.underlying26 rfl Ad ?_)
    | (refine wpList_store_mid rfl 26 _ _ rfl w.heap.size 0 _ rfl rfl ac.out Ad (one6 _ _ _ _ _ _ _ _) ?_))
   refine bodyPost_ret (As (v:=.agg #[.int .i64 0,.string ⟨#[]⟩,.int .i64 0,.float .f64 0,.bool false,.slice none 0 0]) rfl rfl (run_loadVar_mid (P:=Tryz.prog) _ _ 0 26 _ _ j.out Tryz.underlying26 rfl Ad)) rfl ?_;exact ⟨_,_,rfl,l.out⟩
