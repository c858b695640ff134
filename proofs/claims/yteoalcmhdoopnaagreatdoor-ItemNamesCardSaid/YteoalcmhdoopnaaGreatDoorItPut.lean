/- item.Get, item.Put. -/
import Derived.Test.YteoalcmhdoopnaaGreatDoorItAt
import Derived.Test.YteoalcmhdoopnaaGreatDoorInsert
import Derived.Laws.OwnMore
namespace Go.Proofs.YteoalcmhdoopnaaGreatDoor
open Go.RowKit
theorem flds_set:∀(fs:List Fld) (k:Nat) (f:Fld),((flds fs).set (k * 2) (.string f.1)).set (k * 2+1) (.string f.2)=flds (fs.set k f)
 | [],k,f=>by simp [Ao]
 | g :: fs,0,f=>by rw [List.set_cons_zero,Ad,Ad];rfl
 | g :: fs,k+1,f=>by
   rw [List.set_cons_succ,Ad,Ad,show (k+1) * 2=k * 2+1+1 by omega,List.set_cons_succ,List.set_cons_succ,List.set_cons_succ,List.set_cons_succ,flds_set fs k f]
theorem owns_put {w:World} {B g n cap k:Nat} {fs:List Fld} (h:w.ownsRow B 53 2 (.slice (some ⟨g,0,none⟩) n cap) n (flds fs)) (hk:k<n) (f:Fld) :
   ((w.setCell ⟨g,k * 2,none⟩ (.string f.1)).setCell ⟨g,k * 2+1,none⟩ (.string f.2)).ownsRow B 53 2 (.slice (some ⟨g,0,none⟩) n cap) n (flds (fs.set k f)):=by
 obtain ⟨g', cur,hgg,hgB,hg,hnc,hcm,hcs,hx⟩:=A9 h
 obtain rfl:g=g' := by simpa using hgg
 rw [setCell_eq_setRow w g (k * 2) cur 53 (0,0) _ hg]
 have hg1:=Ai hg (cur.setIfInBounds (k * 2) (.string f.1))
 rw [setCell_eq_setRow _ g (k * 2+1) _ 53 (0,0) _ hg1]
 have hg2:=Ai hg1 ((cur.setIfInBounds (k * 2) (.string f.1)).setIfInBounds (k * 2+1) (.string f.2))
 refine A6 hgB hg2 hnc hcm (by simp [hcs]) ?_
 rw [Array.toList_setIfInBounds,Array.toList_setIfInBounds,List.take_set,List.take_set,hx,flds_set]
theorem put_there {fs:List Fld} {name:ByteArray} (text:ByteArray) (h:hasF fs name=true):putF fs name text=fs.set (lbF fs name) (name,text)\/fs.length<=lbF fs name:=by
 rcases Nat.lt_or_ge (lbF fs name) fs.length with h1 | h1
 · left;unfold putF;rw [if_pos h,List.set_eq_take_append_cons_drop,if_pos h1]
 · exact Or.inr h1
theorem put_new {fs:List Fld} {name:ByteArray} (text:ByteArray) (h:hasF fs name=false):putF fs name text=ins fs (lbF fs name) (name,text):=by
 unfold putF ins;rw [if_neg (by simp [h])];rfl
theorem fr3 (h:Nat) (w6:World) (x y z:Value):Fr (fun q=>q=h+1) w6 (((w6.setCell ⟨h+1,0,none⟩ x).setCell ⟨h+1,1,none⟩ y).setCell ⟨h+1,2,none⟩ z):=
 ((((Fr.refl (fun q=>q=h+1) w6).setCell (p:=⟨h+1,0,none⟩) (fun _=>rfl) _).setCell (p:=⟨h+1,1,none⟩) (fun _=>rfl) _).setCell (p:=⟨h+1,2,none⟩) (fun _=>rfl) _)
set_option maxRecDepth 100000 in
set_option maxHeartbeats 6400000 in
theorem iput_in (k:Int) (t:ByteArray) (a:Option Addr) (n cap:Nat) (fs:List Fld) (name s:ByteArray) (w:World) (hk:k≠1) (hr:RF w a n cap fs) (hs:Srt fs) (hn:n<=99999) (hfine:fineF (name,s)) (hroom:hasF fs name=true\/n<256) :
   Calls Tryz.prog 18 #[.agg #[.int .i64 k,.string t,.slice a n cap],.string name,.string s] w fun e w' => ∃(a' : Option Addr) (n' cap' : Nat),e=.returned (.tuple #[.agg #[.int .i64 2,.string ⟨#[]⟩,.slice a' n' cap'],.bool (!hasF fs name),.int .i64 0])/\w'.ownsRow (w.heap.size+3) 53 2 (.slice a' n' cap') n' (flds (putF fs name s))/\Below w.heap.size w w' := by
 have hn:n<=100000:=by omega
 have hl:=hr.len
 have hk1:(k == 1)=false:=by simpa using hk
 obtain ⟨W2,hW2⟩:∃W2,W2=(w.alloc (.cells #[.int .i64 k,.string t,.slice a n cap] 24)).alloc (.cells #[.int .i64 0,.string ⟨#[]⟩,.slice none 0 0] 24):=⟨_,rfl⟩
 have hb2:Below w.heap.size w W2:=by rw [hW2];exact ((Below.refl _ _).alloc (Nat.le_refl _) _).alloc (by simp) _
 have hs2:W2.heap.size=w.heap.size+2:=by rw [hW2];simp
 have hB:∀q u,#[.int .i64 k,.string t,.slice a n cap][q]?=some u->W2.cell? ⟨w.heap.size,q,none⟩=some u:=fun q u h=>by rw [hW2,World.cell?_alloc_past _ _ _ (by simp),World.cell?_alloc_new];exact h
 have hC:∀q u,#[.int .i64 0,.string ⟨#[]⟩,.slice none 0 0][q]?=some u->W2.cell? ⟨w.heap.size+1,q,none⟩=some u:=fun q u h=>by
   rw [hW2,show w.heap.size+1=(w.alloc (.cells #[.int .i64 k,.string t,.slice a n cap] 24)).heap.size by simp,World.cell?_alloc_new];exact h
 have hfC:Blk W2 (w.heap.size+1):=by rw [hW2,show w.heap.size+1=(w.alloc (.cells #[.int .i64 k,.string t,.slice a n cap] 24)).heap.size by simp];exact Blk.new _ _ _
 have g0:W2.cell? ⟨w.heap.size,0,none⟩=some (.int .i64 k):=hB 0 _ rfl
 have g1:W2.cell? ⟨w.heap.size,1,none⟩=some (.string t):=hB 1 _ rfl
 have g2:W2.cell? ⟨w.heap.size,2,none⟩=some (.slice a n cap):=hB 2 _ rfl
 have i0:W2.cell? ⟨w.heap.size+1,0,none⟩=some (.int .i64 0):=hC 0 _ rfl
 have i1:W2.cell? ⟨w.heap.size+1,1,none⟩=some (.string ⟨#[]⟩):=hC 1 _ rfl
 have i2:W2.cell? ⟨w.heap.size+1,2,none⟩=some (.slice none 0 0):=hC 2 _ rfl
 have y0:=hfC.frz 0 none
 have y1:=hfC.frz 1 none
 have y2:=hfC.frz 2 none
 replace hW2:=Hd hW2
 clear hB hC
 obtain ⟨W3,hW3⟩:∃W3,W3=W2.alloc (.cells #[.string name,.string s] 53):=⟨_,rfl⟩
 have hb23:Below W2.heap.size W2 W3:=by rw [hW3];exact (Below.refl _ _).alloc (Nat.le_refl _) _
 have hb3:Below w.heap.size w W3:=hb2.trans (hb23.mono hb2.size)
 have q0:W3.cell? ⟨W2.heap.size,0,none⟩=some (.string name):=by rw [hW3,World.cell?_alloc_new];rfl
 have q1:W3.cell? ⟨W2.heap.size,1,none⟩=some (.string s):=by rw [hW3,World.cell?_alloc_new];rfl
 rw [hs2] at q0 q1
 have hr3:=hr.below hb3
 have hat:=at_any k t a n cap fs name W3 hr3 hs hn
 obtain ⟨L,hL⟩:∃L,L=lbF fs name:=⟨_,rfl⟩
 obtain ⟨H,hH⟩:∃H,H=hasF fs name:=⟨_,rfl⟩
 rw [<-hL,<-hH] at hat
 replace hat:=Hd hat
 replace hr3:=Hd hr3
 replace hL:=Hd hL
 replace hH:=Hd hH
 replace hs:=Hd hs
 replace hl:=Hd hl
 replace hW3:=Hd hW3
 clear hr hk
 have q2:=q0
 have hs3:W3.heap.size=w.heap.size+3:=by rw [hW3.out];simp [hs2]
 obtain ⟨PF,hPF⟩:∃PF,PF=putF fs name s:=⟨_,rfl⟩
 rw [<-hPF,<-hH.out]
 replace hPF:=Hd hPF
 cases hHv:H with
 | true=>
   subst hHv;clear hroom;obtain ⟨qf,hqf⟩:∃q:Bool,q=true/\fineF (name,s):=⟨true,rfl,hfine⟩;have hfq:=fun W=>field_q (name,s) true ⟨fun _=>hfine,fun _=>rfl⟩ W;replace hfq:=Hd hfq;clear hqf hfine qf
   go_enter Tryz.func18,Tryz.ntmps18
   go_upto_region 1 with fail
   rw [<-hW2.out];go_upto_region 4 with fail
   rw [<-hW3.out];replace g0:=Aa hb23 g0;replace g1:=Aa hb23 g1;replace g2:=Aa hb23 g2;replace i0:=Aa hb23 i0;replace i1:=Aa hb23 i1;replace i2:=Aa hb23 i2;replace hfC:=hfC.of_block (hb23.block _ hfC.lt);clear y0 y1 y2;have y0:=hfC.frz 0 none;have y1:=hfC.frz 1 none;have y2:=hfC.frz 2 none;go_wp2_with fail
   refine hat.out.mono ?_;rintro e w4 ⟨rfl,hb4⟩;replace g0:=Aa hb4 g0;replace g1:=Aa hb4 g1;replace g2:=Aa hb4 g2;replace i0:=Aa hb4 i0;replace i1:=Aa hb4 i1;replace i2:=Aa hb4 i2;replace hfC:=hfC.of_block (hb4.block _ hfC.lt);clear y0 y1 y2;have y0:=hfC.frz 0 none;have y1:=hfC.frz 1 none;have y2:=hfC.frz 2 none;replace q0:=Aa hb4 q0;replace q1:=Aa hb4 q1;have hbel:=hb3.trans (hb4.mono hb3.size);have hr4:=hr3.out.below hb4;replace hr4:=Hd hr4;go_wp2_with fail
   refine (hfq.out _).mono ?_;rintro e w5 ⟨rfl,hb5⟩;replace g0:=Aa hb5 g0;replace g1:=Aa hb5 g1;replace g2:=Aa hb5 g2;replace i0:=Aa hb5 i0;replace i1:=Aa hb5 i1;replace i2:=Aa hb5 i2;replace hfC:=hfC.of_block (hb5.block _ hfC.lt);clear y0 y1 y2;have y0:=hfC.frz 0 none;have y1:=hfC.frz 1 none;have y2:=hfC.frz 2 none;replace q0:=Aa hb5 q0;replace q1:=Aa hb5 q1;have hbel5:=hbel.trans (hb5.mono hbel.size);have hr5:=hr4.out.below hb5;replace hr5:=Hd hr5;go_wp2_with fail
   refine (A4 a n cap fs _ hr5.out hn).mono ?_;rintro e w6 ⟨a6,c6,rfl,hown,hb6⟩;replace g0:=Aa hb6 g0;replace g1:=Aa hb6 g1;replace g2:=Aa hb6 g2;replace i0:=Aa hb6 i0;replace i1:=Aa hb6 i1;replace i2:=Aa hb6 i2;replace hfC:=hfC.of_block (hb6.block _ hfC.lt);clear y0 y1 y2;have y0:=hfC.frz 0 none;have y1:=hfC.frz 1 none;have y2:=hfC.frz 2 none;replace q0:=Aa hb6 q0;replace q1:=Aa hb6 q1;have hbel6:=hbel5.trans (hb6.mono hbel5.size);have hw5:w.heap.size+3<=w5.heap.size:=by have:=hb5.size;have:=hb4.size;have:=World.block_lt_of_cell? _ _ q2;omega
   obtain ⟨hlb,hname⟩:=(Be hs.out).1 hH.out.symm;have hLn:L<n:=by have:=hl.out;rw [hL.out];omega
   have hPF' : PF=fs.set L (name,s):=by
     rw [hPF.out,hL.out];rcases put_there s hH.out.symm with h | h
     · exact h
     · omega
   obtain ⟨ad,rfl⟩:∃ad,a6=some ad:=by
     cases a6 with
     | some ad=>exact ⟨ad,rfl⟩
     | none=>have:=(RF.of_owns hown).nil;omega
   obtain ⟨g,cur,rfl,hgB,hg,hnc,hcm,hcs,hx⟩:=A9 hown;obtain ⟨W7,hW7⟩:∃W7,W7=w6.alloc (.cells #[.int .i64 2,.string ⟨#[]⟩,.slice (some ⟨g,0,none⟩) n c6] 24):=⟨_,rfl⟩;have hb67:Below w6.heap.size w6 W7:=by rw [hW7];exact (Below.refl _ _).alloc (Nat.le_refl _) _
   have hbel7:=hbel6.trans (hb67.mono hbel6.size);have m0:W7.cell? ⟨w6.heap.size,0,none⟩=some (.int .i64 2):=by rw [hW7,World.cell?_alloc_new];rfl
   have m1:W7.cell? ⟨w6.heap.size,1,none⟩=some (.string ⟨#[]⟩):=by rw [hW7,World.cell?_alloc_new];rfl
   have m2:W7.cell? ⟨w6.heap.size,2,none⟩=some (.slice (some ⟨g,0,none⟩) n c6):=by rw [hW7,World.cell?_alloc_new];rfl
   have hgt:g<w6.heap.size:=(Array.getElem?_eq_some_iff.1 hg).1;have hg7:W7.heap[g]?=some (.cells cur 53 (0,0)):=by rw [hb67.block g hgt];exact hg
   have hown7:=Ap hown (Fr.of_below hb67) (fun q hq=>by have:=(Af hown q hq).2;omega);have hb0:Blk W7 g:=⟨cur,53,hg7⟩;have hc0:W7.cell? ⟨g,L * 2,none⟩=some (cur[L * 2]'(by rw [hcs];omega)):=by rw [An hg7];exact Array.getElem?_eq_getElem _
   have hc1:W7.cell? ⟨g,L * 2+1,none⟩=some (cur[L * 2+1]'(by rw [hcs];omega)):=by rw [An hg7];exact Array.getElem?_eq_getElem _
   obtain ⟨v0,hv0⟩:∃v,v=cur[L * 2]'(by rw [hcs];omega):=⟨_,rfl⟩;obtain ⟨v1,hv1⟩:∃v,v=cur[L * 2+1]'(by rw [hcs];omega):=⟨_,rfl⟩;rw [<-hv0] at hc0;rw [<-hv1] at hc1;have hz0:=hb0.frz (L * 2) none;have hz1:=hb0.frz (L * 2+1) none;go_upto_region 8 with fail
   rw [<-hW7];replace g0:=Aa hb67 g0;replace g1:=Aa hb67 g1;replace g2:=Aa hb67 g2;replace i0:=Aa hb67 i0;replace i1:=Aa hb67 i1;replace i2:=Aa hb67 i2;replace hfC:=hfC.of_block (hb67.block _ hfC.lt);clear y0 y1 y2;have y0:=hfC.frz 0 none;have y1:=hfC.frz 1 none;have y2:=hfC.frz 2 none;replace q0:=Aa hb67 q0;replace q1:=Aa hb67 q1;have hown8:=owns_put hown7 hLn (name,s);rw [<-hPF'] at hown8;have hf8:Fr (fun q=>q=g) W7 ((W7.setCell ⟨g,L * 2,none⟩ (.string name)).setCell ⟨g,L * 2+1,none⟩ (.string s)):=((Fr.refl (fun q=>q=g) W7).setCell (p:=⟨g,L * 2,none⟩) (fun _=>rfl) _).setCell (p:=⟨g,L * 2+1,none⟩) (fun _=>rfl) _;have hgw:w.heap.size+3<=g:=by omega
   have hb8:Below w.heap.size w ((W7.setCell ⟨g,L * 2,none⟩ (.string name)).setCell ⟨g,L * 2+1,none⟩ (.string s)):=hbel7.trans (hf8.below hbel7.size (fun i hi h=>by omega));have hn1:¬(g=w6.heap.size):=by omega
   have hn2:¬(g=w.heap.size+1):=by omega
   have hn3:¬(g=w.heap.size+2):=by omega
   have hn4:¬(g=w.heap.size):=by omega
   have hi0:(0:Int)<=(L:Int):=by omega
   have hi1:(L:Int)<(n:Int):=by omega
   replace hW7:=Hd hW7;replace hPF' := Hd hPF';replace hown8:=Hd hown8;replace hf8:=Hd hf8;replace hb8:=Hd hb8;clear hv0 hv1 hb0 hg7 hown7 hown hx hcs hg hlb hname hbel7 hb67;go_wp2_with fail
   refine bodyPost_ret (v:=.tuple #[.agg #[.int .i64 2,.string ⟨#[]⟩,.slice (some ⟨g,0,none⟩) n c6],.bool false,.int .i64 0]) (by simp [results,Tryz.results18,go_sem,i0,i1,i2]) rfl ⟨some ⟨g,0,none⟩,n,c6,rfl,?_,set3 hb8.out _ _ _⟩;exact Ap (Bw hown8.out hw5) (fr3 w.heap.size _ _ _ _) (fun q hq=>by have h1:g=q:=(by simpa [Value.ownBlock] using hq);show ¬(q=w.heap.size+1);omega)
 | false=>
   subst hHv;have h256:¬(256:Int)<=n:=by
     rcases hroom with h | h
     · rw [<-hH.out] at h;cases h
     · omega
   clear hroom;obtain ⟨qf,hqf⟩:∃q:Bool,q=true/\fineF (name,s):=⟨true,rfl,hfine⟩;have hfq:=fun W=>field_q (name,s) true ⟨fun _=>hfine,fun _=>rfl⟩ W;replace hfq:=Hd hfq;clear hqf hfine qf
   go_enter Tryz.func18,Tryz.ntmps18
   go_upto_region 1 with fail
   rw [<-hW2.out];go_upto_region 4 with fail
   rw [<-hW3.out];replace g0:=Aa hb23 g0;replace g1:=Aa hb23 g1;replace g2:=Aa hb23 g2;replace i0:=Aa hb23 i0;replace i1:=Aa hb23 i1;replace i2:=Aa hb23 i2;replace hfC:=hfC.of_block (hb23.block _ hfC.lt);clear y0 y1 y2;have y0:=hfC.frz 0 none;have y1:=hfC.frz 1 none;have y2:=hfC.frz 2 none;go_wp2_with fail
   refine hat.out.mono ?_;rintro e w4 ⟨rfl,hb4⟩;replace g0:=Aa hb4 g0;replace g1:=Aa hb4 g1;replace g2:=Aa hb4 g2;replace i0:=Aa hb4 i0;replace i1:=Aa hb4 i1;replace i2:=Aa hb4 i2;replace hfC:=hfC.of_block (hb4.block _ hfC.lt);clear y0 y1 y2;have y0:=hfC.frz 0 none;have y1:=hfC.frz 1 none;have y2:=hfC.frz 2 none;replace q0:=Aa hb4 q0;replace q1:=Aa hb4 q1;have hbel:=hb3.trans (hb4.mono hb3.size);have hr4:=hr3.out.below hb4;replace hr4:=Hd hr4;go_wp2_with fail
   refine (hfq.out _).mono ?_;rintro e w5 ⟨rfl,hb5⟩;replace g0:=Aa hb5 g0;replace g1:=Aa hb5 g1;replace g2:=Aa hb5 g2;replace i0:=Aa hb5 i0;replace i1:=Aa hb5 i1;replace i2:=Aa hb5 i2;replace hfC:=hfC.of_block (hb5.block _ hfC.lt);clear y0 y1 y2;have y0:=hfC.frz 0 none;have y1:=hfC.frz 1 none;have y2:=hfC.frz 2 none;replace q0:=Aa hb5 q0;replace q1:=Aa hb5 q1;have hbel5:=hbel.trans (hb5.mono hbel.size);have hr5:=hr4.out.below hb5;replace hr5:=Hd hr5;go_wp2_with fail
   refine (A4 a n cap fs _ hr5.out hn).mono ?_;rintro e w6 ⟨a6,c6,rfl,hown,hb6⟩;replace g0:=Aa hb6 g0;replace g1:=Aa hb6 g1;replace g2:=Aa hb6 g2;replace i0:=Aa hb6 i0;replace i1:=Aa hb6 i1;replace i2:=Aa hb6 i2;replace hfC:=hfC.of_block (hb6.block _ hfC.lt);clear y0 y1 y2;have y0:=hfC.frz 0 none;have y1:=hfC.frz 1 none;have y2:=hfC.frz 2 none;replace q0:=Aa hb6 q0;replace q1:=Aa hb6 q1;have hbel6:=hbel5.trans (hb6.mono hbel5.size);have hw5:w.heap.size+3<=w5.heap.size:=by have:=hb5.size;have:=hb4.size;have:=World.block_lt_of_cell? _ _ q2;omega
   have hPF' : flds PF=flds (ins fs L (name,s)):=by rw [hPF.out,hL.out,put_new s hH.out.symm]
   have hLn:L<=n:=by have:=lbF_le fs name;have:=hl.out;rw [hL.out];omega
   obtain ⟨W7,hW7⟩:∃W7,W7=w6.alloc (.cells #[.int .i64 2,.string ⟨#[]⟩,.slice a6 n c6] 24):=⟨_,rfl⟩;have hb67:Below w6.heap.size w6 W7:=by rw [hW7];exact (Below.refl _ _).alloc (Nat.le_refl _) _
   have hs7:W7.heap.size=w6.heap.size+1:=by rw [hW7];simp
   have hbel7:=hbel6.trans (hb67.mono hbel6.size);have m0:W7.cell? ⟨w6.heap.size,0,none⟩=some (.int .i64 2):=by rw [hW7,World.cell?_alloc_new];rfl
   have m1:W7.cell? ⟨w6.heap.size,1,none⟩=some (.string ⟨#[]⟩):=by rw [hW7,World.cell?_alloc_new];rfl
   have m2:W7.cell? ⟨w6.heap.size,2,none⟩=some (.slice a6 n c6):=by rw [hW7,World.cell?_alloc_new];rfl
   have hbm:Blk W7 w6.heap.size:=by rw [hW7];exact Blk.new _ _ _
   go_upto_region 8 with fail
   rw [<-hW7];replace g0:=Aa hb67 g0;replace g1:=Aa hb67 g1;replace g2:=Aa hb67 g2;replace i0:=Aa hb67 i0;replace i1:=Aa hb67 i1;replace i2:=Aa hb67 i2;replace hfC:=hfC.of_block (hb67.block _ hfC.lt);clear y0 y1 y2;have y0:=hfC.frz 0 none;have y1:=hfC.frz 1 none;have y2:=hfC.frz 2 none;replace q0:=Aa hb67 q0;replace q1:=Aa hb67 q1;obtain ⟨W8,hW8⟩:∃W8,W8=W7.alloc (.cells #[.string name,.string s] 53):=⟨_,rfl⟩;have hb78:Below W7.heap.size W7 W8:=by rw [hW8];exact (Below.refl _ _).alloc (Nat.le_refl _) _
   have hs8:W8.heap.size=W7.heap.size+1:=by rw [hW8];simp
   have hv8:W8.heap[W7.heap.size]?=some (.cells #[.string name,.string s] 53 (0,0)):=by rw [hW8];show (W7.heap.push _)[W7.heap.size]?=_;exact Array.getElem?_push_size
   have hob:=Af hown;have hown8:=Ap hown (Fr.of_below (hb67.trans (hb78.mono hb67.size))) (fun q hq=>by have:=(hob q hq).2;omega);have hins:=insert_own w5.heap.size a6 n c6 L fs (name,s) W7.heap.size W8 hown8 hv8 (fun h=>by have:=(hob _ h).2;omega) hn hLn (by have:=hb6.size;omega);have hbel8:=hbel7.trans (hb78.mono hbel7.size);have mm0:=Aa hb78 m0;have mm1:=Aa hb78 m1;have mm2:=Aa hb78 m2;have hbm8:Blk W8 w6.heap.size:=hbm.of_block (hb78.block _ (by omega));have hs65:w5.heap.size<=w6.heap.size:=hb6.size;replace hins:=Hd hins;replace hW7:=Hd hW7;replace hW8:=Hd hW8;replace hs7:=Hd hs7;replace hs8:=Hd hs8;replace hob:=Hd hob;replace hPF' := Hd hPF';clear hv8 hown8 hown hb67;go_wp2_with fail
   rw [<-hW8.out];refine hins.out.mono ?_;rintro e w9 ⟨a9,c9,rfl,hown9,hf9,hn9⟩;have hne:∀q,(Value.slice a6 n c6).ownBlock=some q->w5.heap.size<=q/\q<w6.heap.size:=hob.out;have hoff:∀b,w6.heap.size<=b\/b<w5.heap.size->¬(Value.slice a6 n c6).ownBlock=some b:=fun b hb h=>by have:=hne b h;omega
   have n0:=hf9.cell mm0 (hoff w6.heap.size (Or.inl (Nat.le_refl _)));have n1:=hf9.cell mm1 (hoff w6.heap.size (Or.inl (Nat.le_refl _)));have n2:=hf9.cell mm2 (hoff w6.heap.size (Or.inl (Nat.le_refl _)));have nz:w9.frozen? ⟨w6.heap.size,2,none⟩=false:=(hbm8.fr hf9 (hoff w6.heap.size (Or.inl (Nat.le_refl _)))).frz 2 none;replace g0:=Aa hb78 g0;replace g1:=Aa hb78 g1;replace g2:=Aa hb78 g2;replace i0:=Aa hb78 i0;replace i1:=Aa hb78 i1;replace i2:=Aa hb78 i2;replace hfC:=hfC.of_block (hb78.block _ hfC.lt);clear y0 y1 y2;have y0:=hfC.frz 0 none;have y1:=hfC.frz 1 none;have y2:=hfC.frz 2 none;have hi9:¬(Value.slice a6 n c6).ownBlock=some (w.heap.size+1):=hoff _ (Or.inr (by omega));have j0:=hf9.cell i0 hi9;have j1:=hf9.cell i1 hi9;have j2:=hf9.cell i2 hi9;have hj:=hfC.fr hf9 hi9;have x0:=hj.frz 0 none;have x1:=hj.frz 1 none;have x2:=hj.frz 2 none
   have hbel9:Below w.heap.size w w9:=hbel8.trans (hf9.below hbel8.size (fun i hi h=>by have:=hne i h;omega));have hb10:Below w.heap.size w (w9.setCell ⟨w6.heap.size,2,none⟩ (.slice a9 (n+1) c9)):=hbel9.setCell (by show w.heap.size<=w6.heap.size;omega) _;have hown10:(w9.setCell ⟨w6.heap.size,2,none⟩ (.slice a9 (n+1) c9)).ownsRow w5.heap.size 53 2 (.slice a9 (n+1) c9) (n+1) (flds PF):=by
     rw [hPF'.out];exact Ap hown9 ((Fr.refl (fun q=>q=w6.heap.size) w9).setCell (p:=⟨w6.heap.size,2,none⟩) (fun _=>rfl) _) (fun q hq h=>by
       have h1:=hs7.out;have h2:=hs8.out;rcases hn9 q hq with h3 | h3
       · have:=hne q h3;omega
       · omega)
   have hown11:=Af hown10;have hn1:¬(w6.heap.size=w.heap.size+1):=by omega
   clear mm0 mm1 mm2 m0 m1 m2 g0 g1 g2 i0 i1 i2 y0 y1 y2 hown9 hf9 hn9 hoff hne hi9 hbm8 hbm hj hfC hbel8 hbel7 hbel9;replace hb10:=Hd hb10;replace hown10:=Hd hown10;replace hown11:=Hd hown11;go_wp2_with fail
   refine bodyPost_ret (v:=.tuple #[.agg #[.int .i64 2,.string ⟨#[]⟩,.slice a9 (n+1) c9],.bool true,.int .i64 0]) (by simp [results,Tryz.results18,go_sem,j0,j1,j2]) rfl ⟨a9,n+1,c9,rfl,?_,set3 hb10.out _ _ _⟩;exact Ap (Bw hown10.out hw5) (fr3 w.heap.size _ _ _ _) (fun q hq=>by have h1:=(hown11.out q hq).1;show ¬(q=w.heap.size+1);omega)
end Go.Proofs.YteoalcmhdoopnaaGreatDoor
