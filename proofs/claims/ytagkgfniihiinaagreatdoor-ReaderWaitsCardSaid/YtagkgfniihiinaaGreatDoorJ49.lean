/- wire.Bytes and wire.Size, in both protocols. -/
import Derived.Test.YtagkgfniihiinaaGreatDoorJ78
import Derived.Test.YtagkgfniihiinaaGreatDoorJ85
namespace Go.Proofs.YtagkgfniihiinaaGreatDoor
open Go.RowKit Go.Joins
def Ce (v:V) (p:Int):List UInt8:=if p=3 then v.wire else v.down.old
theorem bytesP_len {v:V} {p d:Int} (hf:v.fine d=true) (hr:v.ranged) (hc:v.count<=100000):3<=(Ce v p).length/\(Ce v p).length<=5000 * v.count:=by
 unfold Ce;split
 · exact wire_len v d hf hr hc
 · have h:=down_ok v d hf hr
   have:=old_len v.down d h.fine h.ranged (by rw [h.count];exact hc);rw [h.count] at this;exact this
theorem V.down_down (v:V):v.down.down=v.down:=by
 induction v using V.ind with
 | h v ih=>
 rw [V.down_eq v];split
 · exact V.down_eq _
 split
 · exact V.down_eq _
 split
 · exact V.down_eq _
 split
 · exact V.down_eq _
 split
 · exact V.down_eq _
 split
 · rw [V.down_eq]
   show (V.mk 5 ⟨#[]⟩ 0 0 false ((v.list.map V.down).map V.down))=_;rw [List.map_map];congr 1;exact List.map_congr_left fun x hx=>ih x hx
 · rename_i h1 h2 h3 h4 h5 h6
   rw [V.down_eq,if_neg h1,if_neg h2,if_neg h3,if_neg h4,if_neg h5,if_neg h6]
def RBytes (p:Int) (v:V):Prop:=∀(k:Int) (t:ByteArray) (i:Int) (r:Nat) (f:Bool) (a:Option Addr) (n cap:Nat) (d:Int) (w:World),RDownH v k t i r f a n cap d w ->
   Calls Tryz.prog 22 #[.agg #[.int .i64 k,.string t,.int .i64 i,.float .f64 r,.bool f,.slice a n cap],.int .i64 p] w fun e w' => e=.returned (.string ⟨(Ce v p).toArray⟩)/\Below w.heap.size w w'
theorem F2 {X:ByteArray} {l:List UInt8} (h:X.data.toList=l):(⟨l.toArray⟩:ByteArray)=X:=(Ff h).symm
theorem itoaB_list (n:Int):(Be n).data.toList=Lib.itoa n:=by simp [Be]
def Ct (p:Int) (l:List V):List UInt8:=l.flatMap fun x=>Ce x p
theorem partsL_snoc (p:Int) (l:List V) (x:V):Ct p (l++[x])=Ct p l++Ce x p:=by unfold Ct;simp
theorem partsL_len {p d:Int}:∀{l:List V},(∀x∈l,x.fine d=true)->(∀x∈l,x.ranged)->V.countL l<=100000->(Ct p l).length<=5000 * V.countL l
 | [],_,_,_=>Nat.zero_le _
 | x :: l,hf,hr,hc=>by
   rw [V.countL] at hc ⊢;have h1:=(bytesP_len (p:=p) (hf x (by simp)) (hr x (by simp)) (by omega)).2;have h2:=partsL_len (p:=p) (d:=d) (l:=l) (fun y hy=>hf y (by simp [hy])) (fun y hy=>hr y (by simp [hy])) (by omega);unfold Ct at h2 ⊢;rw [List.flatMap_cons,List.length_append];omega
theorem partsL_wire (l:List V):Ct 3 l=V.wireL l:=by
 induction l with
 | nil=>rfl
 | cons x l ih=>
   unfold Ct at ih ⊢;rw [List.flatMap_cons,ih,V.wireL];rfl
theorem partsL_old {p:Int} (hp:p≠3) {l:List V} (h:∀x∈l,x.down=x):Ct p l=V.oldL l:=by
 induction l with
 | nil=>rfl
 | cons x l ih=>
   have hx:=h x (by simp);have hi:=ih fun y hy=>h y (by simp [hy]);unfold Ct at hi ⊢;rw [List.flatMap_cons,hi,V.oldL];show (if p=3 then x.wire else x.down.old)++_=_;rw [if_neg hp,hx]
def Dp (p:Int) (u:V):List UInt8:=if u.kind=5\/u.kind=12\/u.kind=13\/u.kind=14 then numL (Ba u.kind) (Bn u.kind u.list.length)++Ct p u.list else u.wire
theorem body_eq {p:Int} {v u:V} (hu:u=if p=3 then v else v.down) (hk:p≠3->u.kind<6) (hl:p≠3->∀x∈u.list,x.down=x):Ce v p=Dp p u:=by
 unfold Ce Dp;by_cases hp:p=3
 · subst hp
   rw [if_pos rfl] at hu;subst hu;rw [if_pos rfl];split
   · rename_i h
     rw [partsL_wire,V.wire_eq,if_neg (by omega),if_neg (by omega),if_neg (by omega),if_neg (by omega),if_neg (by omega),if_neg (by omega),if_pos h]
   · rfl
 · rw [if_neg hp] at hu ⊢
   have h1:=hk hp;rw [<-hu,V.old_eq,if_neg (by omega)];by_cases h5:u.kind=5
   · rw [if_pos h5,if_pos (.inl h5),h5,partsL_old hp (hl hp)];rfl
   · rw [if_neg h5,if_neg (by omega)]
section
variable {p K:Int} {t:ByteArray} {i:Int} {r:Nat} {f:Bool} {l:List V}
theorem body_line (hk:K=1\/K=2\/K=9):(⟨(Dp p (.mk K t i r f l)).toArray⟩:ByteArray)=(⟨#[Ba K]⟩:ByteArray)++t++⟨#[13,10]⟩:=F2 (by
 unfold Dp;rw [if_neg (by simp only [V.kind];omega),V.wire_eq,if_pos (show (V.mk K t i r f l).kind=1\/(V.mk K t i r f l).kind=2\/(V.mk K t i r f l).kind=9 from hk),ByteArray.data_append,ByteArray.data_append,Array.toList_append,Array.toList_append];rfl)
theorem body_long (hk:K=4\/K=10\/K=11):(⟨(Dp p (.mk K t i r f l)).toArray⟩:ByteArray)=(⟨#[Ba K]⟩:ByteArray)++(Be t.size++(⟨#[13,10]⟩:ByteArray))++t++⟨#[13,10]⟩:=F2 (by
 unfold Dp;simp only [ByteArray.data_append,Array.toList_append,itoaB_list];rw [if_neg (by simp only [V.kind];omega),V.wire_eq,if_neg (by simp only [V.kind];omega),if_neg (by simp only [V.kind];omega),if_neg (by simp only [V.kind];omega),if_neg (by simp only [V.kind];omega),if_neg (by simp only [V.kind];omega),if_pos (show (V.mk K t i r f l).kind=4\/(V.mk K t i r f l).kind=10\/(V.mk K t i r f l).kind=11 from hk),Ee,numL,B0,Aw t];simp [V.kind,V.text])
theorem body_list (hk:K=5\/K=12\/K=13\/K=14):(⟨(Dp p (.mk K t i r f l)).toArray⟩:ByteArray)=(⟨#[Ba K]⟩:ByteArray)++(Be ((Bn K l.length:Nat):Int)++(⟨#[13,10]⟩:ByteArray))++⟨(Ct p l).toArray⟩:=F2 (by
 unfold Dp;simp only [ByteArray.data_append,Array.toList_append,itoaB_list];rw [if_pos (show (V.mk K t i r f l).kind=5\/(V.mk K t i r f l).kind=12\/(V.mk K t i r f l).kind=13\/(V.mk K t i r f l).kind=14 from hk),numL,B0];simp [V.kind,V.list])
theorem body_num:(⟨(Dp p (.mk 3 t i r f l)).toArray⟩:ByteArray)=(⟨#[58]⟩:ByteArray)++Be i++⟨#[13,10]⟩:=F2 (by
 unfold Dp;rw [if_neg (by simp only [V.kind];omega),V.wire_eq,if_neg (by simp only [V.kind];omega),if_pos (show (V.mk 3 t i r f l).kind=3 from rfl),ByteArray.data_append,ByteArray.data_append,Array.toList_append,Array.toList_append,itoaB_list];rfl)
theorem body_real:(⟨(Dp p (.mk 7 t i r f l)).toArray⟩:ByteArray)=(⟨#[44]⟩:ByteArray)++⟨(A5 r).toArray⟩++⟨#[13,10]⟩:=F2 (by
 unfold Dp;rw [if_neg (by simp only [V.kind];omega),V.wire_eq,if_neg (by simp only [V.kind];omega),if_neg (by simp only [V.kind];omega),if_pos (show (V.mk 7 t i r f l).kind=7 from rfl),ByteArray.data_append,ByteArray.data_append,Array.toList_append,Array.toList_append];rfl)
theorem body_null:(⟨(Dp p (.mk 6 t i r f l)).toArray⟩:ByteArray)=⟨#[95,13,10]⟩:=F2 (by
 unfold Dp;rw [if_neg (by simp only [V.kind];omega),V.wire_eq,if_neg (by simp only [V.kind];omega),if_neg (by simp only [V.kind];omega),if_neg (by simp only [V.kind];omega),if_neg (by simp only [V.kind];omega),if_pos (show (V.mk 6 t i r f l).kind=6 from rfl)];rfl)
theorem body_bool:(⟨(Dp p (.mk 8 t i r f l)).toArray⟩:ByteArray)=if f then ⟨#[35,116,13,10]⟩ else ⟨#[35,102,13,10]⟩:=by
 have e:Dp p (.mk 8 t i r f l)=B0 35 (if f then [116] else [102]):=by
   unfold Dp;rw [if_neg (by simp only [V.kind];omega),V.wire_eq,if_neg (by simp only [V.kind];omega),if_neg (by simp only [V.kind];omega),if_neg (by simp only [V.kind];omega),if_pos (show (V.mk 8 t i r f l).kind=8 from rfl)];rfl
 rw [e];cases f<;>rfl
end
set_option maxRecDepth 100000 in
set_option maxHeartbeats 12800000 in
theorem rb_any {p:Int} {v u:V} (hu:u=if p=3 then v else v.down) (ih:∀x∈u.list,RBytes p x):RBytes p v:=by
 intro k0 t0 i0 r0 f0 a0 n0 cap0 d w hp;have hpar:=Hd hp.par;have hrng:=Hd hp.rng;replace hp:=hp.d;have hokd:=down_ok v d hp.fine hp.ranged;have hfu:u.fine d=true:=by rw [hu];split;exact hp.fine;exact hokd.fine
 have hru:u.ranged:=by rw [hu];split;exact hp.ranged;exact hokd.ranged
 have hcu:u.count<=100000:=by rw [hu];split;exact hp.count;rw [hokd.count];exact hp.count
 have hku:p≠3->u.kind<=6:=fun h=>by rw [hu,if_neg h];have:=hokd.kind;omega
 have hdd:p≠3->u.down=u:=fun h=>by rw [hu,if_neg h];exact V.down_down v
 clear hokd;obtain ⟨W1,hW1⟩:∃W1,W1=w.alloc (.cells #[.int .i64 k0,.string t0,.int .i64 i0,.float .f64 r0,.bool f0,.slice a0 n0 cap0] 26):=⟨_,rfl⟩;have hb1:Below w.heap.size w W1:=by rw [hW1];exact (Below.refl _ _).alloc (Nat.le_refl _) _
 have hs1:W1.heap.size=w.heap.size+1:=by rw [hW1];simp
 have hrA:W1.rangeAt w.heap.size 0 [.int .i64 k0,.string t0,.int .i64 i0,.float .f64 r0,.bool f0,.slice a0 n0 cap0]:=by rw [hW1];intro q u hq;rw [Nat.zero_add,World.cell?_alloc_new];simpa using hq
 have hkA:Blk W1 w.heap.size:=by rw [hW1];exact Blk.new _ _ _
 have hdn:=R2.rdown_any v k0 t0 i0 r0 f0 a0 n0 cap0 d W1 ⟨⟨hp.val.mono (Aa hb1),hp.fine,hp.ranged,hp.count,(hp.laid.below hb1 (Nat.le_refl _)).mono hb1.size⟩,hpar.out.below hb1,hrng.out.below hb1⟩;unfold Gn at hdn;have hfe:=hfu;rw [V.fine_eq,Bool.and_eq_true,Bool.and_eq_true] at hfe;have hok:=Du hfe.1.1;have hra:=(V.ranged_eq _).1 hru;have hkk:=hok.kind;have htz:=hok.size;have hct:=V.count_eq u;have hbody:p=3\/u.kind≠6->Ce v p=Dp p u:=fun h=>body_eq hu (fun h3=>by have:=hku h3;omega) (fun h3=>by
   intro x hx;have h1:=hdd h3;rw [V.down_eq] at h1;by_cases h5:u.kind=5
   · rw [if_neg (by omega),if_neg (by omega),if_neg (by omega),if_neg (by omega),if_neg (by omega),if_pos (.inl h5)] at h1
     have h2:u.list.map V.down=u.list:=by
       have:=congrArg V.list h1;exact this
     have h4:u.list.map V.down=u.list.map id:=by rw [h2,List.map_id]
     exact List.map_inj_left.1 h4 x hx
   · have:u.list=[]:=hok.list (by have:=hku h3;omega)
     rw [this] at hx;cases hx)
 clear hdd;obtain ⟨K,t,i,r,f,l⟩:=u;dsimp only [V.kind,V.text,V.int,V.real,V.flag,V.list] at *;have hcl:V.countL l<=100000:=by omega
 have hll:=V.length_le l;obtain ⟨n,hn⟩:∃n,n=l.length:=⟨_,rfl⟩;have hn9:n<=100000:=by omega
 have hi9:-9223372036854775808<=i/\i<=9223372036854775807:=⟨hra.1,hra.2.1⟩;have hr9:r<18446744073709551616:=hra.2.2.1;have hfine:Hid (V.fineL l (d - 1)=true):=Hd hfe.2;have hrl:Hid (V.rangedL l):=Hd hra.2.2.2;have hcnt:Hid (V.countL l<=100000):=Hd hcl;clear hfe hok hra hct hcl hll hfu hru hcu;replace hdn:=Hd hdn;replace hu:=Hd hu;replace hbody:=Hd hbody;replace hku:=Hd hku;replace ih:=Hd ih;replace hW1:=Hd hW1;replace hb1:=Hd hb1;replace hs1:=Hd hs1;replace hrA:=Hd hrA;replace hkA:=Hd hkA;replace hp:=Hd hp;replace hn:=Hd hn;replace hkk:=Hd hkk
 go_enter Tryz.func22,Tryz.ntmps22
 go_upto_if 10 with fail
 rw [<-hW1.out]
 go_cut [4] from 4 to 15 (fun _ wx=>∃(a:Option Addr) (cap:Nat),wx.rangeAt w.heap.size 0 [.int .i64 K,.string t,.int .i64 i,.float .f64 r,.bool f,.slice a n cap]/\RV wx.cell? (Ai K t i r f a n cap) (.mk K t i r f l)/\Below w.heap.size w wx/\w.heap.size<wx.heap.size/\(p=3\/K≠6))
 case first=>
   by_cases hp3:p=3
   · subst hp3
     have hvv:v=.mk K t i r f l:=by rw [hu.out,if_pos rfl]
     subst hvv;obtain ⟨rfl,rfl,rfl,rfl,rfl,hnn⟩:=hp.out.val.len;obtain rfl:n0=n:=hnn.trans hn.out.symm;clear hnn;go_wp2_with fail
     go_meet
     exact ⟨a0,cap0,hrA.out,hp.out.val.mono (Aa hb1.out),hb1.out,by have:=hs1.out;omega,.inl trivial⟩
   · have hq3:(p != 3)=true:=by simpa using hp3
     have hvd:v.down=.mk K t i r f l:=by rw [hu.out,if_neg hp3]
     rw [hvd] at hdn;dsimp only [V.kind,V.text,V.int,V.real,V.flag,V.list] at hdn;rw [<-hn.out] at hdn;replace hvd:=Hd hvd;have tok1:True:=trivial;go_wp2_with (have _t:=tok1;refine wpList_load_mid rfl 26 _ rfl w.heap.size 0 rfl _ _ hrA.out Tryz.underlying26 rfl Ae ?_;clear tok1 _t)
     refine hdn.out.mono ?_;rintro e w2 ⟨a,cap,rfl,hrv,hb2⟩;have hsw:=hs1.out;have hss2:=hb2.size;have htA:=Aq (n:=6) (Af hb2 hrA.out) (hkA.out.of_block (hb2.block _ (by omega))) rfl;obtain ⟨WX,hWX⟩:∃WX,WX=w2.setCells w.heap.size 0 [.int .i64 K,.string t,.int .i64 i,.float .f64 r,.bool f,.slice a n cap]:=⟨_,rfl⟩;have hfrX:Fr (fun k=>k=w.heap.size) w2 WX:=by rw [hWX];exact Fr.setCells (S:=fun k=>k=w.heap.size) (fun _=>rfl) _ _ _ (Fr.refl _ w2)
     have hrX6:WX.rangeAt w.heap.size 0 [.int .i64 K,.string t,.int .i64 i,.float .f64 r,.bool f,.slice a n cap]:=by rw [hWX];exact World.rangeAt_setCells_same _ _ _ _ htA
     have c0:=hrX6 0 _ rfl;rw [Nat.zero_add] at c0;have hvX:RV WX.cell? (Ai K t i r f a n cap) (.mk K t i r f l):=hrv.mono (fun ad u h=>hfrX.cell (Cq h).1 (fun e=>by have:=(Cq h).2;omega));have hbX:Below w.heap.size w WX:=(hb1.out.trans (hb2.mono hb1.out.size)).trans (hfrX.below (by omega) (fun j hj e=>by omega));have hsX:w.heap.size<WX.heap.size:=by have:=hfrX.size;omega
     replace htA:=Hd htA;replace hWX:=Hd hWX;replace hvX:=Hd hvX;replace hbX:=Hd hbX;replace hrX6:=Hd hrX6;clear hrv hb2 hfrX hsw hss2;have tok2:True:=trivial;by_cases h6:K=6
     · subst h6
       have htg:Hid ((⟨(Ce v p).toArray⟩:ByteArray)=⟨#[36,45,49,13,10]⟩):=Hd (F2 (by
         show _=Ce v p;unfold Ce;rw [if_neg hp3,hvd.out,V.old_eq,if_pos (show (V.mk 6 t i r f l).kind=6 from rfl)]))
       go_wp2_with (have _t:=tok2;refine wpList_store_mid rfl 26 _ _ rfl w.heap.size 0 _ rfl rfl htA.out Ae (one6 _ _ _ _ _ _ _ _) ?_;rw [<-hWX.out];clear tok2 _t)
       go_ret;exact ⟨by rw [htg.out];rfl,hbX.out⟩
     · have h6b:(K == 6)=false:=by simpa using h6
       go_wp2_with (have _t:=tok2;refine wpList_store_mid rfl 26 _ _ rfl w.heap.size 0 _ rfl rfl htA.out Ae (one6 _ _ _ _ _ _ _ _) ?_;rw [<-hWX.out];clear tok2 _t)
       go_meet
       exact ⟨a,cap,hrX6.out,hvX.out,hbX.out,hsX,.inr h6⟩
 rename World=>WX
 obtain ⟨a,cap,hrX6,hvX,hbX,hsX,h36⟩:=hcut;have htgX:(⟨(Ce v p).toArray⟩:ByteArray)=⟨(Dp p (.mk K t i r f l)).toArray⟩:=by rw [hbody.out h36]
 have c0:=hrX6 0 _ rfl;have c1:=hrX6 1 _ rfl;have c2:=hrX6 2 _ rfl;have c3:=hrX6 3 _ rfl;have c4:=hrX6 4 _ rfl;have c5:=hrX6 5 _ rfl;rw [Nat.zero_add] at c0 c1 c2 c3 c4 c5;have hLX:LaidV WX.heap.size WX:=by
   have h1:=hp.out.laid.below hbX (Nat.le_refl _);exact h1.mono hbX.size
 have hpX:Par WX:=hpar.out.below hbX;have hrX:Rng WX:=hrng.out.below hbX;have hvL:Hid (RV WX.cell? (Ai (V.mk K t i r f l).kind (V.mk K t i r f l).text (V.mk K t i r f l).int (V.mk K t i r f l).real (V.mk K t i r f l).flag a n cap) (V.mk K t i r f l)):=Hd hvX;clear hrX6 hvX hbody hu hdn hku hp hpar hrng hrA hkA hb1 hs1 hW1 h36;replace hbX:=Hd hbX;replace hLX:=Hd hLX;replace hpX:=Hd hpX;replace hrX:=Hd hrX;replace htgX:=Hd htgX;go_wp2_with fail
 have hcs:=hcnt;go_loopw [5,19] (fun s i wr=>∃j:Nat,j<=n/\i=.int .i64 j/\s=.string ⟨(Ct p (l.take j)).toArray⟩/\Below WX.heap.size WX wr) (fun _ i _=>n - (intOf i).toNat)
 case atStart=>exact ⟨0,Nat.zero_le _,rfl,rfl,Below.refl _ _⟩
 case round=>
   obtain ⟨j,hj,rfl,rfl,hb2⟩:=hrel;have hpl:=partsL_len (p:=p) (l:=l.take j) (d:=d - 1) (fun x hx=>D1 hfine.out x (List.mem_of_mem_take hx)) (fun x hx=>V.rangedL_mem hrl.out x (List.mem_of_mem_take hx)) (Nat.le_trans (V.countL_take _ _) hcnt.out);have hplc:=V.countL_take l j;have hcc:=hcnt.out;have up:∀ad u,WX.cell? ad=some u->wr.cell? ad=some u:=Aa hb2;by_cases hlt:j<n
   · have hlti:(j:Int)<(n:Int):=by omega
     obtain ⟨x,bb,o,ax,cx,hxj,hmem,rfl,hx,d0,d1,d2,d3,d4,d5⟩:=(hvL.out.mono up).elem' hlt;replace hxj:(l)[j]?=some x:=hxj;replace hmem:x∈l:=hmem;have hts:l.take (j+1)=l.take j++[x]:=by
       obtain ⟨h1,h2⟩:=List.getElem?_eq_some_iff.1 hxj;rw [List.take_succ_eq_append_getElem h1,h2]
     have hbx:=bytesP_len (p:=p) (D1 hfine.out x hmem) (V.rangedL_mem hrl.out x hmem) (Nat.le_trans (V.count_mem hmem) hcc);have hxc:=V.count_mem hmem;obtain ⟨U,hU⟩:∃U:ByteArray,U=⟨(Ce x p).toArray⟩:=⟨_,rfl⟩;obtain ⟨S,hS⟩:∃S:ByteArray,S=⟨(Ct p (l.take j)).toArray⟩:=⟨_,rfl⟩;have hUz:U.size<=500000000:=by rw [hU,Aw];show (Ce x p).toArray.toList.length<=_;simp;omega
     have hSz:S.size<=500000000:=by rw [hS,Aw];show (Ct p (l.take j)).toArray.toList.length<=_;simp;omega
     have hz1:¬9223372036854775807<S.size+U.size:=by omega
     have hnext:S++U=⟨(Ct p (l.take (j+1))).toArray⟩:=by
       refine Ff ?_;rw [hts,partsL_snoc,ByteArray.data_append,Array.toList_append,hS,hU]
     rw [<-hS];obtain ⟨W4,hW4⟩:∃W4,W4=wr.alloc (.cells #[.int .i64 x.kind,.string x.text,.int .i64 x.int,.float .f64 x.real,.bool x.flag,.slice ax x.list.length cx] 26):=⟨_,rfl⟩;have hb4:Below wr.heap.size wr W4:=by rw [hW4];exact (Below.refl _ _).alloc (Nat.le_refl _) _
     have hb24:Below WX.heap.size WX W4:=hb2.trans (hb4.mono hb2.size);have hB:=ih.out x hmem x.kind x.text x.int x.real x.flag ax x.list.length cx (d - 1) W4 ⟨⟨hx.mono (Aa hb4),D1 hfine.out x hmem,V.rangedL_mem hrl.out x hmem,Nat.le_trans hxc hcc,(hLX.out.below hb24 (Nat.le_refl _)).mono hb24.size⟩,hpX.out.below hb24,hrX.out.below hb24⟩;rw [hW4,<-hU] at hB;replace hB:=Hd hB;replace hW4:=Hd hW4;replace hts:=Hd hts;replace hnext:=Hd hnext;replace hU:=Hd hU;replace hS:=Hd hS;replace hb24:=Hd hb24;have e0:=up _ _ c0;have e5:=up _ _ c5;clear hx hxj hbx hpl hplc hb4 up;replace hb2:=Hd hb2;go_wp2_with fail
     refine hB.out.mono ?_;rintro e w3 ⟨rfl,hb3⟩;rw [<-hW4.out] at hb3;have hb5:=hb24.out.trans (hb3.mono hb24.out.size);clear hb3 d0 d1 d2 d3 d4 d5 e0 e5;replace hb5:=Hd hb5;go_wp2_with fail
     go_roundw
     case rel=>exact ⟨j+1,by omega,by go_num,by rw [hnext.out],hb5.out⟩
     case measure=>simp [intOf];omega
   · have hlti:¬(j:Int)<(n:Int):=by omega
     have hjn:l.take j=l:=List.take_of_length_le (by have:=hn.out;omega);rw [hjn] at hpl ⊢;obtain ⟨S,hS⟩:∃S:ByteArray,S=⟨(Ct p l).toArray⟩:=⟨_,rfl⟩;have hSz:S.size<=500000000:=by rw [hS,Aw];show (Ct p l).toArray.toList.length<=_;simp;omega
     rw [<-hS];have hKK:(K=1\/K=2\/K=9)\/(K=4\/K=10\/K=11)\/(K=5\/K=12\/K=13\/K=14)\/K=3\/K=7\/K=6\/K=8:=by have:=hkk.out;omega
     have e0:=up _ _ c0;have e1:=up _ _ c1;have e2:=up _ _ c2;have e3:=up _ _ c3;have e4:=up _ _ c4;have e5:=up _ _ c5;have hbR:=hbX.out.trans (hb2.mono hbX.out.size);have hpR:Par wr:=hpX.out.below hb2;have hrR:Rng wr:=hrX.out.below hb2;have hLR:LaidV wr.heap.size wr:=(hLX.out.below hb2 (Nat.le_refl _)).mono hb2.size;have hsR:w.heap.size<wr.heap.size:=by have:=hb2.size;omega
     clear hpl hplc up c0 c1 c2 c3 c4 c5 hcs hvL ih hb2 hbX;have hbX:=hbR;clear hbR;replace hbX:=Hd hbX;replace hpR:=Hd hpR;replace hrR:=Hd hrR;replace hLR:=Hd hLR;replace hS:=Hd hS;rcases hKK with hk | hk | hk | rfl | rfl | rfl | rfl
     · have htg:=Hd (htgX.out.trans (body_line hk))
       have l1:¬9223372036854775807<1+t.size:=by omega
       have l2:¬9223372036854775807<1+t.size+2:=by omega
       obtain rfl | rfl | rfl:=hk
       all_goals
         go_wp2_with fail
         go_ret
         exact ⟨by rw [htg.out];rfl,hbX.out⟩
     · have htg:=htgX.out.trans (body_long hk)
       have hT:=count4_any t.size (by omega);have hIz:(Be t.size).size<=21:=Eo t.size (by omega) (by omega);have z2:(⟨#[13,10]⟩:ByteArray).size=2:=rfl;have hTz:(Be t.size++(⟨#[13,10]⟩:ByteArray)).size<=23:=by rw [ByteArray.size_append];omega
       generalize Be t.size++(⟨#[13,10]⟩:ByteArray)=T at *;have l1:¬9223372036854775807<1+T.size:=by omega
       have l2:¬9223372036854775807<1+T.size+t.size:=by omega
       have l3:¬9223372036854775807<1+T.size+t.size+2:=by omega
       replace hT:=Hd hT;replace htg:=Hd htg;clear z2 hIz;obtain rfl | rfl | rfl:=hk;go_upto_region 20 with fail
       rotate_left
       go_upto_region 34 with fail
       rotate_left
       go_upto_region 36 with fail
       all_goals
         refine Ad (by kernel_rfl) (by kernel_rfl) ?_
         repeat (go_big_quiet_step ((go_at_call 43;(with_reducible exact A6 (hT.out _)))))
         refine wpQuiet_nil ?_
         rintro _ ⟨xq,rfl⟩
         have hS:=Ag wr xq
         go_wp2_with fail
         go_ret
         exact ⟨by rw [htg.out];rfl,hbX.out.trans (hS.mono hbX.out.size)⟩
     · have htg:=htgX.out.trans (body_list hk)
       rw [<-hn.out,<-hS.out] at htg;obtain ⟨m2,hm2⟩:∃m,m=Bn K n:=⟨_,rfl⟩;rw [<-hm2] at htg;have hm9:m2<=100000:=by rw [hm2];unfold Bn;split<;>omega
       have hT:=count4_any m2 (by omega);have hIz:(Be ((m2:Nat):Int)).size<=21:=Eo _ (by omega) (by omega);have z2:(⟨#[13,10]⟩:ByteArray).size=2:=rfl;have hTz:(Be ((m2:Nat):Int)++(⟨#[13,10]⟩:ByteArray)).size<=23:=by rw [ByteArray.size_append];omega
       obtain ⟨T,hTe⟩:∃T,T=Be ((m2:Nat):Int)++(⟨#[13,10]⟩:ByteArray):=⟨_,rfl⟩;rw [<-hTe] at hT hTz htg;have l1:¬9223372036854775807<1+T.size:=by omega
       have l2:¬9223372036854775807<1+T.size+S.size:=by omega
       have hdv:((n:Nat):Int).tdiv 2=((n / 2:Nat):Int):=by rw [Int.tdiv_eq_ediv_of_nonneg (by omega)];rfl
       replace hT:=Hd hT;replace hTe:=Hd hTe;replace htg:=Hd htg;clear z2 hIz;have hm4:K≠12->m2=n:=fun h=>by rw [hm2];exact if_neg h
       have hm5:K=12->m2=n / 2:=fun h=>by rw [hm2];exact if_pos h
       clear hm2;obtain rfl | rfl | rfl | rfl:=hk;obtain rfl:=hm4 (by decide)
       rotate_left
       obtain rfl:=hm5 rfl
       rotate_left
       obtain rfl:=hm4 (by decide)
       rotate_left
       obtain rfl:=hm4 (by decide)
       all_goals
         clear hm4 hm5
         go_wp2_with fail
         refine (hT.out _).mono ?_
         rintro e w3 ⟨rfl,hb3⟩
         replace hb3:=Hd hb3
         go_wp2_with fail
         go_ret
         exact ⟨by rw [htg.out];rfl,hbX.out.trans (hb3.out.mono hbX.out.size)⟩
     · have htg:=htgX.out.trans body_num
       have hT:=F5 i hi9.1 hi9.2;have hIz:(Be i).size<=21:=Eo i hi9.1 hi9.2;generalize Be i=T at *;have l1:¬9223372036854775807<1+T.size:=by omega
       have l2:¬9223372036854775807<1+T.size+2:=by omega
       replace hT:=Hd hT;replace htg:=Hd htg;go_wp2_with fail
       refine (hT.out _).mono ?_;rintro e w1 ⟨rfl,hbb⟩;replace hbb:=Hd hbb;go_wp2_with fail
       go_ret;exact ⟨by rw [htg.out];rfl,hbX.out.trans (hbb.out.mono hbX.out.size)⟩
     · have htg:=htgX.out.trans body_real
       have hT:=fun w hP hF hR=>refText_any (w:=w) hr9 hP hF hR;have hLz:=text_len hr9;have hTz:(⟨(A5 r).toArray⟩:ByteArray).size<=25:=by rw [Aw];simpa using hLz
       generalize (⟨(A5 r).toArray⟩:ByteArray)=T at *;have l1:¬9223372036854775807<1+T.size:=by omega
       have l2:¬9223372036854775807<1+T.size+2:=by omega
       replace hT:=Hd hT;replace htg:=Hd htg;clear hLz;go_wp2_with fail
       refine (hT.out _ hpR.out hLR.out.isFlo hrR.out).mono ?_;rintro e w1 ⟨rfl,hbb⟩;replace hbb:=Hd hbb;go_wp2_with fail
       go_ret;exact ⟨by rw [htg.out];rfl,hbX.out.trans (hbb.out.mono hbX.out.size)⟩
     · have htg:=Hd (htgX.out.trans body_null)
       go_wp2_with fail
       go_ret;exact ⟨by rw [htg.out];rfl,hbX.out⟩
     · have htg:=htgX.out.trans body_bool
       cases f
       all_goals
         replace htg:=Hd htg
         go_wp2_with fail
         go_ret
         exact ⟨by rw [htg.out];rfl,hbX.out⟩
theorem refBytes_any (p:Int) (v:V):RBytes p v:=by
 by_cases hp3:p=3
 · subst hp3
   induction v using V.ind with
   | h v ih=>exact rb_any (u:=v) (if_pos rfl).symm ih
 · have key:∀v:V,RBytes p v/\RBytes p v.down:=by
     intro v;induction v using V.ind with
     | h v ih=>
       have hl:∀x∈v.down.list,RBytes p x:=by
         intro x hx;rw [V.down_eq] at hx;split at hx
         · cases hx
         split at hx
         · cases hx
         split at hx
         · cases hx
         split at hx
         · cases hx
         split at hx
         · cases hx
         split at hx
         · obtain ⟨y,hy,rfl⟩:=List.mem_map.1 (show x∈v.list.map V.down from hx)
           exact (ih y hy).2
         · exact (ih x hx).1
       exact ⟨rb_any (u:=v.down) (if_neg hp3).symm hl,rb_any (u:=v.down) (by rw [if_neg hp3,V.down_down]) hl⟩
   exact (key v).1
end Go.Proofs.YtagkgfniihiinaaGreatDoor
