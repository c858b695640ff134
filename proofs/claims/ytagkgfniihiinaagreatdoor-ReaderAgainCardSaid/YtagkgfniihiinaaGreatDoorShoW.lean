/- internal/strconv.shortFloat: its walk. -/
import Derived.Test.YtagkgfniihiinaaGreatDoorPreW
import Derived.Test.YtagkgfniihiinaaGreatDoorJ52
set_option linter.all false
namespace Go.Proofs.YtagkgfniihiinaaGreatDoor
open Go.RowKit
theorem nudge_up (u:Nat) (o:Nat) (h:u<18446744073709551000) (ho:o<=1) (w:World):Calls Tryz.prog 175 #[.int .u64 (u:Int),.int .i64 (o:Int)] w fun e w' => e=.returned (.int .u64 ((u+o:Nat):Int))/\w' = w:=by
 go_enter Tryz.func175,Tryz.ntmps175
 go_wp2;go_ret;exact ⟨by simp,rfl⟩
theorem nudge_0 (u:Nat) (h:u<18446744073709551000) (w:World):Calls Tryz.prog 175 #[.int .u64 (u:Int),.int .i64 0] w fun e w' => e=.returned (.int .u64 (u:Int))/\w' = w:=by
 go_enter Tryz.func175,Tryz.ntmps175
 go_wp2;go_ret;exact ⟨rfl,rfl⟩
theorem nudge_down (u:Nat) (h:u<18446744073709551000) (h1:1<=u) (w:World):Calls Tryz.prog 175 #[.int .u64 (u:Int),.int .i64 (-1)] w fun e w' => e=.returned (.int .u64 ((u - 1:Nat):Int))/\w' = w:=by
 obtain ⟨v,rfl⟩:∃v,u=v+1:=⟨u - 1,by omega⟩
 go_enter Tryz.func175,Tryz.ntmps175
 have hw:IntKind.u64.wrap ((v:Int)+1+IntKind.u64.wrap (-1))=(v:Int):=by
   simp [IntKind.wrap,IntKind.bits,IntKind.signed];omega
 replace hw:=Hd hw;go_wp2;go_ret;refine ⟨?_,rfl⟩;show Ending.returned (.int .u64 (IntKind.u64.wrap ((v:Int)+1+IntKind.u64.wrap (-1))))=_;rw [hw.out,Nat.add_sub_cancel]
theorem C2 (u c:Nat) (d:Int) (h:u<18446744073709551000) (hc:(d=0/\c=u)\/(d=1/\c=u+1)\/(d=-1/\u=c+1)) (w:World):Calls Tryz.prog 175 #[.int .u64 (u:Int),.int .i64 d] w fun e w' => e=.returned (.int .u64 (c:Int))/\w' = w:=by
 rcases hc with ⟨rfl,rfl⟩ | ⟨rfl,rfl⟩ | ⟨rfl,rfl⟩
 · exact nudge_0 _ h w
 · exact nudge_up u 1 h (by omega) w
 · exact nudge_down (c+1) h (by omega) w
theorem ceil_is (u c:Nat) (h:u<18446744073709551000) (hc:(u+3) / 4=c) (w:World):Calls Tryz.prog 176 #[.int .u64 (u:Int)] w fun e w' => e=.returned (.int .u64 (c:Int))/\w' = w:=by subst hc;exact ceil_any u h w
theorem F7 (u c:Nat) (h:u<18446744073709551000) (hc:u / 4=c) (w:World):Calls Tryz.prog 177 #[.int .u64 (u:Int)] w fun e w' => e=.returned (.int .u64 (c:Int))/\w' = w:=by subst hc;exact floor_any u h w
theorem Es (u c:Nat) (h:u<18446744073709551000) (hc:rndU u=c) (w:World):Calls Tryz.prog 178 #[.int .u64 (u:Int)] w fun e w' => e=.returned (.int .u64 (c:Int))/\w' = w:=by subst hc;exact round_any u h w
theorem stick_le (q:Nat) (b:Bool):B5 q b<=q+1:=by cases b<;>simp [B5]<;>omega
theorem usc_lt {r x:Nat} (hx:x<18446744073709551616) (h:0<r) (hr:r<9218868437227405312):usc r x<2000000000000000000:=by
 obtain ⟨p0,p1,p2,p3⟩:=Ex h hr;obtain ⟨_,hh⟩:=hi_lt p0 p1;have hl1:x * hiT (fP r) / 18446744073709551616<18446744073709551616:=by
   have:x * hiT (fP r)<=18446744073709551615 * 18446744073709551615:=Nat.mul_le_mul (by omega) (by omega);omega
 have hp:16<=2 ^ (fSc r).toNat:=by
   have:2 ^ 4<=2 ^ (fSc r).toNat:=Nat.pow_le_pow_right (by decide) (by omega);exact this
 have key:∀H:Nat,H<18446744073709551616->H / 2 ^ (fSc r).toNat<=1152921504606846976:=fun H hH=>by
   have:H / 2 ^ (fSc r).toNat<=H / 16:=Nat.div_le_div_left hp (by decide);omega
 unfold usc Cf;split
 · have:=key _ hl1
   have:=stick_le (x * hiT (fP r) / 18446744073709551616 / 2 ^ (fSc r).toNat) true;omega
 · split
   · have:=key (x * hiT (fP r) / 18446744073709551616 - 1) (by omega)
     have:=stick_le ((x * hiT (fP r) / 18446744073709551616 - 1) / 2 ^ (fSc r).toNat) (decide (1<x * hiT (fP r) % 18446744073709551616+18446744073709551616 - x * loT (fP r) / 18446744073709551616));omega
   · have:=key _ hl1
     have:=stick_le (x * hiT (fP r) / 18446744073709551616 / 2 ^ (fSc r).toNat) (decide (1<x * hiT (fP r) % 18446744073709551616 - x * loT (fP r) / 18446744073709551616));omega
theorem usc_h {r x:Nat} (hx:4611686018427387904<=x) (h:0<r) (hr:r<9218868437227405312):1<=x * hiT (fP r) / 18446744073709551616:=by
 obtain ⟨p0,p1,p2,p3⟩:=Ex h hr;obtain ⟨hh,_⟩:=hi_lt p0 p1;have:4611686018427387904 * 9223372036854775808<=x * hiT (fP r):=Nat.mul_le_mul hx hh;omega
def ScalerAt (w:World) (b r:Nat):Prop:=w.cell? ⟨b,0,none⟩=some (.int .u64 (hiT (fP r):Int))/\w.cell? ⟨b,1,none⟩=some (.int .u64 (loT (fP r):Int))/\w.cell? ⟨b,2,none⟩=some (.int .i64 ((fSc r).toNat:Int))
theorem ScalerAt.below {w w' : World} {b r:Nat} (h:ScalerAt w b r) (hb:Below w.heap.size w w'):ScalerAt w' b r:=⟨Aa hb _ _ h.1,Aa hb _ _ h.2.1,Aa hb _ _ h.2.2⟩
theorem Bp {w:World} {b r x:Nat} (hS:ScalerAt w b r) (h:0<r) (hr:r<9218868437227405312) (hx0:4611686018427387904<=x) (hx1:x<18446744073709551616) :
   Calls Tryz.prog 174 #[.int .u64 (x:Int),.pointer (some ⟨b,0,none⟩)] w fun e w' => e=.returned (.int .u64 ((usc r x:Nat):Int))/\Below w.heap.size w w' := by
 obtain ⟨p0,p1,p2,p3⟩:=Ex h hr
 exact uscaleW_any hx1 (hi_lt p0 p1).2 (lo_lt _) (by omega) (usc_h hx0 h hr) hS.1 hS.2.1 hS.2.2
set_option maxRecDepth 100000 in
set_option maxHeartbeats 6400000 in
theorem shortW_any {w:World} {r:Nat} (h:0<r) (hr:r<9218868437227405312) (hP:Pows w) :
   Calls Tryz.prog 149 #[.int .u64 (xM r:Int),.int .i64 ((rK r:Int) - 1074 - fS r)] w fun x w' => x=.returned (.tuple #[.int .u64 ((A2 r).1:Int),.int .i64 (A2 r).2])/\Below w.heap.size w w' := by
 obtain ⟨s0,s1,s2,s3,s4⟩:=Dx h
 obtain ⟨p0,p1,p2,p3⟩:=Ex h hr
 obtain ⟨⟨l0,l1,l9⟩,⟨m0,m1,m9⟩,⟨g0,g1,g9⟩⟩:=x_spec h
 obtain ⟨hkM,hkM2,hkM3⟩:=Ca r
 have hK:=rK_lt hr
 have hpw:=F2 s0
 have hSc:fSc r=fS r+1071 - lp10 (fP r) - rK r:=rfl
 have hmul:xM r=rM r * 2 ^ fS r:=rfl
 obtain ⟨S,hS⟩:∃S:Nat,fSc r=S:=⟨(fSc r).toNat,by omega⟩
 obtain ⟨e,he⟩:∃e:Int,e=(rK r:Int) - 1074 - fS r:=⟨_,rfl⟩
 obtain ⟨p,hp⟩:∃p:Int,p=fP r:=⟨_,rfl⟩
 obtain ⟨l,hl⟩:∃l:Int,l=lp10 p:=⟨_,rfl⟩
 have hl1:-3000<=l/\l<=3000:=by rw [hl,hp];unfold lp10;omega
 have hsv:-(e+l+3)=(S:Int):=by rw [<-hp,<-hl] at hSc;omega
 obtain ⟨o,ho⟩:∃o,o=rM r % 2:=⟨_,rfl⟩
 have hl2:∀w,Calls Tryz.prog 173 #[.int .i64 p] w fun e w' => e=.returned (.int .i64 l)/\w' = w:=fun w=>by rw [hl];exact log2P_any p (by omega) (by omega) w
 have hgl:=hP.lt
 have hbg:w.heap.size≠8:=by omega
 obtain ⟨w1,hw1⟩:∃w1,w1=w.alloc (.cells #[.int .u64 0,.int .u64 0,.int .i64 0] 234):=⟨_,rfl⟩
 have hb1:Below w.heap.size w w1:=by rw [hw1];exact (Below.refl _ _).alloc (Nat.le_refl _) _
 have hP1:Pows w1:=hP.below hb1 hgl
 have hblk:Blk w1 w.heap.size:=by rw [hw1];exact Blk.new _ _ _
 have hc0:w1.cell? ⟨w.heap.size,0,none⟩=some (.int .u64 0):=by rw [hw1,World.cell?_alloc_new];rfl
 have hc1:w1.cell? ⟨w.heap.size,1,none⟩=some (.int .u64 0):=by rw [hw1,World.cell?_alloc_new];rfl
 have hc2:w1.cell? ⟨w.heap.size,2,none⟩=some (.int .i64 0):=by rw [hw1,World.cell?_alloc_new];rfl
 have hBel:∀w2,w2=((w1.setCell ⟨w.heap.size,0,none⟩ (.int .u64 (hiT p:Int))).setCell ⟨w.heap.size,1,none⟩ (.int .u64 (loT p:Int))).setCell ⟨w.heap.size,2,none⟩ (.int .i64 (-(e+l+3)))->Below w.heap.size w w2:=fun w2 hw2=>by
   subst hw2;refine hb1.trans ?_;exact ((((Fr.refl (fun k=>k=w.heap.size) w1).setCell (fun _=>rfl) _).setCell (fun _=>rfl) _).setCell (fun _=>rfl) _).below hb1.size (fun i hi e=>by omega)
 have hSAt:∀w2,w2=((w1.setCell ⟨w.heap.size,0,none⟩ (.int .u64 (hiT p:Int))).setCell ⟨w.heap.size,1,none⟩ (.int .u64 (loT p:Int))).setCell ⟨w.heap.size,2,none⟩ (.int .i64 (-(e+l+3)))->ScalerAt w2 w.heap.size r:=fun w2 hw2=>by
   subst hw2;unfold ScalerAt;rw [<-hp,hS,Int.toNat_natCast,<-hsv];refine ⟨?_,?_,?_⟩
   · rw [Ab (by simp),Ab (by simp)];exact Al hc0
   · rw [Ab (by simp)];exact Al (by rw [Ab (by simp)];exact hc1)
   · exact Al (by rw [Ab (by simp),Ab (by simp)];exact hc2)
 have hpp:-348<=p/\p<=347:=by rw [hp];exact ⟨p0,p1⟩
 have hxl:4611686018427387904<=xLo r/\xLo r<18446744073709551616:=⟨l0,l1⟩
 have hxh:4611686018427387904<=xHi r/\xHi r<18446744073709551616:=⟨g0,g1⟩
 have hxm:4611686018427387904<=xM r/\xM r<18446744073709551616:=⟨m0,m1⟩
 have hu0:=usc_lt l1 h hr
 have hu1:=usc_lt g1 h hr
 have hu2:=usc_lt m1 h hr
 have hmin:fMin r=(usc r (xLo r)+rM r % 2+3) / 4:=rfl
 have hmax:fMax r=(usc r (xHi r) - rM r % 2) / 4:=rfl
 have hsn:A2 r=if fMin r<=fMax r / 10 * 10 then (fMax r / 10,1 - fP r) else if fMin r<fMax r then (rndU (usc r (xM r)),-fP r) else (fMin r,-fP r):=rfl
 have hup:1<=usc r (xHi r):=by
   rw [usc_eq h hr g0 g1 g9];rcases Nat.eq_zero_or_pos (unr (xHi r * tN (fP r)) (tD (fP r) * (18446744073709551616 * 18446744073709551616) * 2 ^ (fSc r).toNat)) with h9 | h9
   · have:=(D4 (y:=xHi r * tN (fP r)) (Nat.mul_pos (Nat.mul_pos (Eb (fP r)) (show 0<18446744073709551616 * 18446744073709551616 by decide)) (Nat.two_pow_pos (fSc r).toNat))).1 (by rw [h9])
     rw [h9] at this;have:0<xHi r * tN (fP r):=Nat.mul_pos (by omega) (tN_pos _);omega
   · exact h9
 obtain ⟨uL,hA0⟩:∃u,usc r (xLo r)=u:=⟨_,rfl⟩
 obtain ⟨uH,hA1⟩:∃u,usc r (xHi r)=u:=⟨_,rfl⟩
 obtain ⟨uM,hA2⟩:∃u,usc r (xM r)=u:=⟨_,rfl⟩
 rw [hA0] at hu0 hmin
 rw [hA1] at hu1 hmax hup
 rw [hA2] at hu2 hsn
 rw [<-ho] at hmin hmax
 rw [<-hp] at hsn
 obtain ⟨nL,hnL⟩:∃n,n=uL+o:=⟨_,rfl⟩
 obtain ⟨nH,hnH⟩:∃n,n=uH - o:=⟨_,rfl⟩
 obtain ⟨mn,hmn⟩:∃n,n=fMin r:=⟨_,rfl⟩
 obtain ⟨mx,hmx⟩:∃n,n=fMax r:=⟨_,rfl⟩
 rw [<-hmn] at hmin hsn
 rw [<-hmx] at hmax hsn
 have ho1:o<=1:=by omega
 have hcl:(nL+3) / 4=mn:=by rw [hmin,hnL]
 have hfl:nH / 4=mx:=by rw [hmax,hnH]
 have hn0:((o:Int)=0/\nL=uL)\/((o:Int)=1/\nL=uL+1)\/((o:Int)=-1/\uL=nL+1):=by omega
 have hn1:(-(o:Int)=0/\nH=uH)\/(-(o:Int)=1/\nH=uH+1)\/(-(o:Int)=-1/\uH=nH+1):=by omega
 have hnL9:nL<18446744073709551000:=by omega
 have hnH9:nH<18446744073709551000:=by omega
 replace hl2:=Hd hl2
 replace hbg:=Hd hbg
 replace hw1:=Hd hw1
 replace hb1:=Hd hb1
 replace hP1:=Hd hP1
 replace hblk:=Hd hblk
 replace hc0:=Hd hc0
 replace hc1:=Hd hc1
 replace hc2:=Hd hc2
 replace hBel:=Hd hBel
 replace hSAt:=Hd hSAt
 have hpb:=hpp
 replace hpp:=Hd hpp
 replace hxl:=Hd hxl
 replace hxh:=Hd hxh
 replace hxm:=Hd hxm
 replace hA0:=Hd hA0
 replace hA1:=Hd hA1
 replace hA2:=Hd hA2
 replace hsn:=Hd hsn
 replace hcl:=Hd hcl
 replace hfl:=Hd hfl
 replace hn0:=Hd hn0
 replace hn1:=Hd hn1
 replace hmn:=Hd hmn
 replace hmx:=Hd hmx
 clear hnL hnH hmin hmax hP hgl
 cases hs:Di r with
 | true=>
   have hs' := hs;rw [Di,Bool.and_eq_true,decide_eq_true_eq,decide_eq_true_eq] at hs';have h11:fS r=11:=s2 hs'.2;have hpl:-skewF ((rK r:Int) - 1074)=p:=by rw [hp];unfold fP;rw [hs];rfl
   have h2:(2:Nat) ^ (11 - 1)=1024:=by decide
   have h3:(2:Nat) ^ 11=2048:=by decide
   have hlo:(xM r:Int) - 512=(xLo r:Int):=by
     have:xLo r=xM r - 512:=by unfold xLo;rw [hs];rfl
     omega
   have hhi:(xM r:Int)+1024=(xHi r:Int):=by
     have:xHi r=xM r+2 ^ (fS r - 1):=rfl;rw [h11] at this;omega
   have hM:(xM r:Int) / 2048=(rM r:Int):=by
     rw [h11] at hmul;omega
   have hand:bits .and .i64 (rM r:Int) 1=(o:Int):=by
     have:=D5 (x:=rM r) (y:=1) (by omega) (by omega);rw [and_1,<-ho] at this;exact this
   have hez:e+11=(rK r:Int) - 1074:=by omega
   have hgt:-1085<e:=by omega
   have hm63:xM r=9223372036854775808:=by rw [hmul,h11,hs'.1]
   have hne:((xM r:Int) == 9223372036854775808)=true:=by rw [hm63];rfl
   have hl10:=skewed_any ((rK r:Int) - 1074) (by omega) (by omega);generalize skewF ((rK r:Int) - 1074)=L at *;rw [<-he];replace hl10:=Hd hl10;replace he:=Hd he;replace hmul:=Hd hmul;replace hSc:=Hd hSc;replace hS:=Hd hS;replace hp:=Hd hp;replace hl:=Hd hl;replace ho:=Hd ho;replace hkM:=Hd hkM;replace hpw:=Hd hpw;clear hkM2 s2 s3 s4 hs hs' l9 m9 g9 h11 hm63 h2 h3
   go_enter Tryz.func149,Tryz.ntmps149
   go_wp2_with fail
   refine (hl10.out _).mono ?_;rintro _ _ ⟨rfl,rfl⟩;go_wp2_with fail
   refine (hl2.out _).mono ?_;rintro _ _ ⟨rfl,rfl⟩;go_wp2_with fail
   rw [<-hw1.out];refine (Cp hblk.out hc0.out hc1.out hc2.out hP1.out hbg.out hpp.out.1 hpp.out.2 (by omega) (by omega) hl1.1 hl1.2).mono ?_;rintro _ w2 ⟨rfl,hw2⟩;have hSA:=hSAt.out w2 hw2;have hb2:=hBel.out w2 hw2;clear hw2;replace hSA:=Hd hSA;replace hb2:=Hd hb2;go_wp2_with fail
   refine (Bp hSA.out h hr hxl.out.1 hxl.out.2).mono ?_;rw [hA0.out];rintro _ w3 ⟨rfl,hb3⟩;have hSA3:=hSA.out.below hb3;have hb13:=hb2.out.trans (hb3.mono hb2.out.size);clear hb3 hSA hb2;replace hSA3:=Hd hSA3;replace hb13:=Hd hb13;go_wp2_with fail
   refine (C2 uL nL _ (by omega) hn0.out _).mono ?_;rintro _ _ ⟨rfl,rfl⟩;go_wp2_with fail
   refine (ceil_is nL mn (by omega) hcl.out _).mono ?_;rintro _ _ ⟨rfl,rfl⟩;go_wp2_with fail
   refine (Bp hSA3.out h hr hxh.out.1 hxh.out.2).mono ?_;rw [hA1.out];rintro _ w4 ⟨rfl,hb4⟩;have hSA4:=hSA3.out.below hb4;have hb14:=hb13.out.trans (hb4.mono hb13.out.size);clear hb4 hSA3 hb13;replace hSA4:=Hd hSA4;replace hb14:=Hd hb14;go_wp2_with fail
   refine (C2 uH nH _ (by omega) hn1.out _).mono ?_;rintro _ _ ⟨rfl,rfl⟩;go_wp2_with fail
   refine (F7 nH mx (by omega) hfl.out _).mono ?_;rintro _ _ ⟨rfl,rfl⟩;obtain ⟨d1,hd1⟩:∃d,d=mx / 10:=⟨_,rfl⟩;have hdv:(mx:Int).tdiv 10=(d1:Int):=by rw [Int.tdiv_eq_ediv_of_nonneg (by omega)];omega
   have hdv2:(mx:Int) / 10=(d1:Int):=by omega
   have hm10:d1 * 10<=mx:=by omega
   have hmx9:mx<4700000000000000000:=by have:=hfl.out;omega
   have hsn1:=hsn.out;rw [<-hd1] at hsn1;replace hd1:=Hd hd1;by_cases hA:mn<=d1 * 10
   · rw [if_pos hA] at hsn1
     have hAi:(mn:Int)<=(d1:Int) * 10:=by omega
     have hneg:-(p - 1)=1 - p:=by omega
     replace hsn1:=Hd hsn1;replace hneg:=Hd hneg;go_wp2
     go_ret2
     refine ⟨?_,hb14.out⟩;rw [hsn1.out,<-hneg.out];try rfl
   · rw [if_neg hA] at hsn1
     have hAi:¬(mn:Int)<=(d1:Int) * 10:=by omega
     by_cases hB:mn<mx
     · rw [if_pos hB] at hsn1
       have hBi:(mn:Int)<(mx:Int):=by omega
       obtain ⟨rc,hrc⟩:∃c,rndU uM=c:=⟨_,rfl⟩;rw [hrc] at hsn1;replace hsn1:=Hd hsn1;replace hrc:=Hd hrc;go_wp2_with fail
       refine (Bp hSA4.out h hr hxm.out.1 hxm.out.2).mono ?_;rw [hA2.out];rintro _ w5 ⟨rfl,hb5⟩;have hb15:=hb14.out.trans (hb5.mono hb14.out.size);clear hb5 hSA4 hb14;replace hb15:=Hd hb15;go_wp2_with fail
       refine (Es uM rc (by omega) hrc.out _).mono ?_;rintro _ _ ⟨rfl,rfl⟩;go_wp2
       go_ret2
       refine ⟨?_,hb15.out⟩;rw [hsn1.out];try rfl
     · rw [if_neg hB] at hsn1
       have hBi:¬(mn:Int)<(mx:Int):=by omega
       replace hsn1:=Hd hsn1;go_wp2
       go_ret2
       refine ⟨?_,hb14.out⟩;rw [hsn1.out];try rfl
 | false=>
   have hpl:-Gf ((rK r:Int) - 1074)=p:=by rw [hp];unfold fP;rw [hs];rfl
   have hlo0:xLo r=xM r - 2 ^ (fS r - 1):=by unfold xLo;rw [hs];rfl
   have hhi0:xHi r=xM r+2 ^ (fS r - 1):=rfl;have hand:bits .and .i64 (rM r:Int) 1=(o:Int):=by
     have:=D5 (x:=rM r) (y:=1) (by omega) (by omega);rw [and_1,<-ho] at this;exact this
   have hl10:=log10P_any ((rK r:Int) - 1074) (by omega) (by omega);by_cases h11:fS r=11
   · have h2:(2:Nat) ^ (11 - 1)=1024:=by decide
     have h3:(2:Nat) ^ 11=2048:=by decide
     rw [h11] at hlo0 hhi0 hmul;have hlo:(xM r:Int) - 1024=(xLo r:Int):=by omega
     have hhi:(xM r:Int)+1024=(xHi r:Int):=by omega
     have hM:(xM r:Int) / 2048=(rM r:Int):=by omega
     have hez:e+11=(rK r:Int) - 1074:=by omega
     have hge:-1085<=e:=by omega
     generalize Gf ((rK r:Int) - 1074)=L at *;rw [<-he];replace hl10:=Hd hl10;replace hmul:=Hd hmul;replace hSc:=Hd hSc;replace hS:=Hd hS;replace hp:=Hd hp;replace hl:=Hd hl;replace ho:=Hd ho;replace hkM:=Hd hkM;replace hpw:=Hd hpw;by_cases hm63:xM r=9223372036854775808
     · have hM52:rM r=4503599627370496:=by omega
       have hK0:rK r=0:=by
         rw [Di,Bool.and_eq_false_iff,decide_eq_false_iff_not,decide_eq_false_iff_not] at hs;omega
       have hgt:¬-1085<e:=by omega
       have hne:((xM r:Int) == 9223372036854775808)=true:=by rw [hm63];rfl
       replace he:=Hd he;clear hkM2 s2 s3 s4 hs l9 m9 g9 h11 hm63 h2 h3 hlo0 hhi0 hM52 hK0
       go_enter Tryz.func149,Tryz.ntmps149
       go_wp2_with fail
       refine (hl10.out _).mono ?_;rintro _ _ ⟨rfl,rfl⟩;go_wp2_with fail
       refine (hl2.out _).mono ?_;rintro _ _ ⟨rfl,rfl⟩;go_wp2_with fail
       rw [<-hw1.out];refine (Cp hblk.out hc0.out hc1.out hc2.out hP1.out hbg.out hpp.out.1 hpp.out.2 (by omega) (by omega) hl1.1 hl1.2).mono ?_;rintro _ w2 ⟨rfl,hw2⟩;have hSA:=hSAt.out w2 hw2;have hb2:=hBel.out w2 hw2;clear hw2;replace hSA:=Hd hSA;replace hb2:=Hd hb2;go_wp2_with fail
       refine (Bp hSA.out h hr hxl.out.1 hxl.out.2).mono ?_;rw [hA0.out];rintro _ w3 ⟨rfl,hb3⟩;have hSA3:=hSA.out.below hb3;have hb13:=hb2.out.trans (hb3.mono hb2.out.size);clear hb3 hSA hb2;replace hSA3:=Hd hSA3;replace hb13:=Hd hb13;go_wp2_with fail
       refine (C2 uL nL _ (by omega) hn0.out _).mono ?_;rintro _ _ ⟨rfl,rfl⟩;go_wp2_with fail
       refine (ceil_is nL mn (by omega) hcl.out _).mono ?_;rintro _ _ ⟨rfl,rfl⟩;go_wp2_with fail
       refine (Bp hSA3.out h hr hxh.out.1 hxh.out.2).mono ?_;rw [hA1.out];rintro _ w4 ⟨rfl,hb4⟩;have hSA4:=hSA3.out.below hb4;have hb14:=hb13.out.trans (hb4.mono hb13.out.size);clear hb4 hSA3 hb13;replace hSA4:=Hd hSA4;replace hb14:=Hd hb14;go_wp2_with fail
       refine (C2 uH nH _ (by omega) hn1.out _).mono ?_;rintro _ _ ⟨rfl,rfl⟩;go_wp2_with fail
       refine (F7 nH mx (by omega) hfl.out _).mono ?_;rintro _ _ ⟨rfl,rfl⟩;obtain ⟨d1,hd1⟩:∃d,d=mx / 10:=⟨_,rfl⟩;have hdv:(mx:Int).tdiv 10=(d1:Int):=by rw [Int.tdiv_eq_ediv_of_nonneg (by omega)];omega
       have hdv2:(mx:Int) / 10=(d1:Int):=by omega
       have hm10:d1 * 10<=mx:=by omega
       have hmx9:mx<4700000000000000000:=by have:=hfl.out;omega
       have hsn1:=hsn.out;rw [<-hd1] at hsn1;replace hd1:=Hd hd1;by_cases hA:mn<=d1 * 10
       · rw [if_pos hA] at hsn1
         have hAi:(mn:Int)<=(d1:Int) * 10:=by omega
         have hneg:-(p - 1)=1 - p:=by omega
         replace hsn1:=Hd hsn1;replace hneg:=Hd hneg;go_wp2
         go_ret2
         refine ⟨?_,hb14.out⟩;rw [hsn1.out,<-hneg.out];try rfl
       · rw [if_neg hA] at hsn1
         have hAi:¬(mn:Int)<=(d1:Int) * 10:=by omega
         by_cases hB:mn<mx
         · rw [if_pos hB] at hsn1
           have hBi:(mn:Int)<(mx:Int):=by omega
           obtain ⟨rc,hrc⟩:∃c,rndU uM=c:=⟨_,rfl⟩;rw [hrc] at hsn1;replace hsn1:=Hd hsn1;replace hrc:=Hd hrc;go_wp2_with fail
           refine (Bp hSA4.out h hr hxm.out.1 hxm.out.2).mono ?_;rw [hA2.out];rintro _ w5 ⟨rfl,hb5⟩;have hb15:=hb14.out.trans (hb5.mono hb14.out.size);clear hb5 hSA4 hb14;replace hb15:=Hd hb15;go_wp2_with fail
           refine (Es uM rc (by omega) hrc.out _).mono ?_;rintro _ _ ⟨rfl,rfl⟩;go_wp2
           go_ret2
           refine ⟨?_,hb15.out⟩;rw [hsn1.out];try rfl
         · rw [if_neg hB] at hsn1
           have hBi:¬(mn:Int)<(mx:Int):=by omega
           replace hsn1:=Hd hsn1;go_wp2
           go_ret2
           refine ⟨?_,hb14.out⟩;rw [hsn1.out];try rfl
     · have hne:((xM r:Int) == 9223372036854775808)=false:=by simp;omega
       replace he:=Hd he;clear hkM2 s2 s3 s4 hs l9 m9 g9 h11 hm63 h2 h3 hlo0 hhi0
       go_enter Tryz.func149,Tryz.ntmps149
       go_wp2_with fail
       refine (hl10.out _).mono ?_;rintro _ _ ⟨rfl,rfl⟩;go_wp2_with fail
       refine (hl2.out _).mono ?_;rintro _ _ ⟨rfl,rfl⟩;go_wp2_with fail
       rw [<-hw1.out];refine (Cp hblk.out hc0.out hc1.out hc2.out hP1.out hbg.out hpp.out.1 hpp.out.2 (by omega) (by omega) hl1.1 hl1.2).mono ?_;rintro _ w2 ⟨rfl,hw2⟩;have hSA:=hSAt.out w2 hw2;have hb2:=hBel.out w2 hw2;clear hw2;replace hSA:=Hd hSA;replace hb2:=Hd hb2;go_wp2_with fail
       refine (Bp hSA.out h hr hxl.out.1 hxl.out.2).mono ?_;rw [hA0.out];rintro _ w3 ⟨rfl,hb3⟩;have hSA3:=hSA.out.below hb3;have hb13:=hb2.out.trans (hb3.mono hb2.out.size);clear hb3 hSA hb2;replace hSA3:=Hd hSA3;replace hb13:=Hd hb13;go_wp2_with fail
       refine (C2 uL nL _ (by omega) hn0.out _).mono ?_;rintro _ _ ⟨rfl,rfl⟩;go_wp2_with fail
       refine (ceil_is nL mn (by omega) hcl.out _).mono ?_;rintro _ _ ⟨rfl,rfl⟩;go_wp2_with fail
       refine (Bp hSA3.out h hr hxh.out.1 hxh.out.2).mono ?_;rw [hA1.out];rintro _ w4 ⟨rfl,hb4⟩;have hSA4:=hSA3.out.below hb4;have hb14:=hb13.out.trans (hb4.mono hb13.out.size);clear hb4 hSA3 hb13;replace hSA4:=Hd hSA4;replace hb14:=Hd hb14;go_wp2_with fail
       refine (C2 uH nH _ (by omega) hn1.out _).mono ?_;rintro _ _ ⟨rfl,rfl⟩;go_wp2_with fail
       refine (F7 nH mx (by omega) hfl.out _).mono ?_;rintro _ _ ⟨rfl,rfl⟩;obtain ⟨d1,hd1⟩:∃d,d=mx / 10:=⟨_,rfl⟩;have hdv:(mx:Int).tdiv 10=(d1:Int):=by rw [Int.tdiv_eq_ediv_of_nonneg (by omega)];omega
       have hdv2:(mx:Int) / 10=(d1:Int):=by omega
       have hm10:d1 * 10<=mx:=by omega
       have hmx9:mx<4700000000000000000:=by have:=hfl.out;omega
       have hsn1:=hsn.out;rw [<-hd1] at hsn1;replace hd1:=Hd hd1;by_cases hA:mn<=d1 * 10
       · rw [if_pos hA] at hsn1
         have hAi:(mn:Int)<=(d1:Int) * 10:=by omega
         have hneg:-(p - 1)=1 - p:=by omega
         replace hsn1:=Hd hsn1;replace hneg:=Hd hneg;go_wp2
         go_ret2
         refine ⟨?_,hb14.out⟩;rw [hsn1.out,<-hneg.out];try rfl
       · rw [if_neg hA] at hsn1
         have hAi:¬(mn:Int)<=(d1:Int) * 10:=by omega
         by_cases hB:mn<mx
         · rw [if_pos hB] at hsn1
           have hBi:(mn:Int)<(mx:Int):=by omega
           obtain ⟨rc,hrc⟩:∃c,rndU uM=c:=⟨_,rfl⟩;rw [hrc] at hsn1;replace hsn1:=Hd hsn1;replace hrc:=Hd hrc;go_wp2_with fail
           refine (Bp hSA4.out h hr hxm.out.1 hxm.out.2).mono ?_;rw [hA2.out];rintro _ w5 ⟨rfl,hb5⟩;have hb15:=hb14.out.trans (hb5.mono hb14.out.size);clear hb5 hSA4 hb14;replace hb15:=Hd hb15;go_wp2_with fail
           refine (Es uM rc (by omega) hrc.out _).mono ?_;rintro _ _ ⟨rfl,rfl⟩;go_wp2
           go_ret2
           refine ⟨?_,hb15.out⟩;rw [hsn1.out];try rfl
         · rw [if_neg hB] at hsn1
           have hBi:¬(mn:Int)<(mx:Int):=by omega
           replace hsn1:=Hd hsn1;go_wp2
           go_ret2
           refine ⟨?_,hb14.out⟩;rw [hsn1.out];try rfl
   · have hK0:rK r=0:=by
       rcases Nat.eq_zero_or_pos (rK r) with h9 | h9
       · exact h9
       · exact absurd (s2 h9) h11
     obtain ⟨Z,hZ⟩:∃Z,Z=fS r:=⟨_,rfl⟩;rw [<-hZ] at hlo0 hhi0 hmul s0 s1 h11 he hSc;obtain ⟨z1,hz1⟩:∃z1:Nat,Z=z1+1:=⟨Z - 1,by omega⟩;obtain ⟨T,hT⟩:∃T,T=2 ^ z1:=⟨_,rfl⟩;have hTi:(2:Int) ^ z1=(T:Int):=by rw [hT];simp
     have hT63:T<=4611686018427387904:=by
       have:2 ^ z1<=2 ^ 62:=Nat.pow_le_pow_right (by decide) (by omega);have e62:(2:Nat) ^ 62=4611686018427387904:=by decide
       omega
     rw [show Z - 1=z1 by omega,<-hT] at hlo0 hhi0;have hlo:(xM r:Int) - (T:Int)=(xLo r:Int):=by omega
     have hhi:(xM r:Int)+(T:Int)=(xHi r:Int):=by omega
     have hM:(xM r:Int) / 2 ^ Z=(rM r:Int):=by
       have:xM r / 2 ^ Z=rM r:=by rw [hmul];exact Nat.mul_div_cancel _ (Nat.two_pow_pos Z)
       rw [<-this];simp
     have hzz:11+(-1085 - e)=(Z:Int):=by omega
     have hz11:(Z:Int) - 1=(z1:Int):=by omega
     have hez:e+(Z:Int)=-1074:=by omega
     have hge:¬-1085<=e:=by omega
     have hgt:¬-1085<e:=by omega
     rw [hK0] at hl10 hpl;replace hl10:∀w,Calls Tryz.prog 144 #[.int .i64 (-1074)] w fun e w' => e=.returned (.int .i64 (Gf (-1074)))/\w' = w:=hl10;replace hpl:-Gf (-1074)=p:=hpl;generalize Gf (-1074)=L at *;rw [show ((rK r:Int) - 1074 - (fS r:Int))=e by rw [he,hZ]];replace hl10:=Hd hl10;replace he:=Hd he;replace hmul:=Hd hmul;replace hSc:=Hd hSc;replace hS:=Hd hS;replace hp:=Hd hp;replace hl:=Hd hl;replace ho:=Hd ho;replace hkM:=Hd hkM;replace hpw:=Hd hpw;clear hkM2 s2 s3 s4 hs l9 m9 g9 h11 hlo0 hhi0 hZ hT hz1 hK0;by_cases hm63:xM r=9223372036854775808
     · have hne:((xM r:Int) == 9223372036854775808)=true:=by rw [hm63];rfl
       clear hm63
       go_enter Tryz.func149,Tryz.ntmps149
       go_wp2_with fail
       refine (hl10.out _).mono ?_;rintro _ _ ⟨rfl,rfl⟩;go_wp2_with fail
       refine (hl2.out _).mono ?_;rintro _ _ ⟨rfl,rfl⟩;go_wp2_with fail
       rw [<-hw1.out];refine (Cp hblk.out hc0.out hc1.out hc2.out hP1.out hbg.out hpp.out.1 hpp.out.2 (by omega) (by omega) hl1.1 hl1.2).mono ?_;rintro _ w2 ⟨rfl,hw2⟩;have hSA:=hSAt.out w2 hw2;have hb2:=hBel.out w2 hw2;clear hw2;replace hSA:=Hd hSA;replace hb2:=Hd hb2;go_wp2_with fail
       refine (Bp hSA.out h hr hxl.out.1 hxl.out.2).mono ?_;rw [hA0.out];rintro _ w3 ⟨rfl,hb3⟩;have hSA3:=hSA.out.below hb3;have hb13:=hb2.out.trans (hb3.mono hb2.out.size);clear hb3 hSA hb2;replace hSA3:=Hd hSA3;replace hb13:=Hd hb13;go_wp2_with fail
       refine (C2 uL nL _ (by omega) hn0.out _).mono ?_;rintro _ _ ⟨rfl,rfl⟩;go_wp2_with fail
       refine (ceil_is nL mn (by omega) hcl.out _).mono ?_;rintro _ _ ⟨rfl,rfl⟩;go_wp2_with fail
       refine (Bp hSA3.out h hr hxh.out.1 hxh.out.2).mono ?_;rw [hA1.out];rintro _ w4 ⟨rfl,hb4⟩;have hSA4:=hSA3.out.below hb4;have hb14:=hb13.out.trans (hb4.mono hb13.out.size);clear hb4 hSA3 hb13;replace hSA4:=Hd hSA4;replace hb14:=Hd hb14;go_wp2_with fail
       refine (C2 uH nH _ (by omega) hn1.out _).mono ?_;rintro _ _ ⟨rfl,rfl⟩;go_wp2_with fail
       refine (F7 nH mx (by omega) hfl.out _).mono ?_;rintro _ _ ⟨rfl,rfl⟩;obtain ⟨d1,hd1⟩:∃d,d=mx / 10:=⟨_,rfl⟩;have hdv:(mx:Int).tdiv 10=(d1:Int):=by rw [Int.tdiv_eq_ediv_of_nonneg (by omega)];omega
       have hdv2:(mx:Int) / 10=(d1:Int):=by omega
       have hm10:d1 * 10<=mx:=by omega
       have hmx9:mx<4700000000000000000:=by have:=hfl.out;omega
       have hsn1:=hsn.out;rw [<-hd1] at hsn1;replace hd1:=Hd hd1;by_cases hA:mn<=d1 * 10
       · rw [if_pos hA] at hsn1
         have hAi:(mn:Int)<=(d1:Int) * 10:=by omega
         have hneg:-(p - 1)=1 - p:=by omega
         replace hsn1:=Hd hsn1;replace hneg:=Hd hneg;go_wp2
         go_ret2
         refine ⟨?_,hb14.out⟩;rw [hsn1.out,<-hneg.out];try rfl
       · rw [if_neg hA] at hsn1
         have hAi:¬(mn:Int)<=(d1:Int) * 10:=by omega
         by_cases hB:mn<mx
         · rw [if_pos hB] at hsn1
           have hBi:(mn:Int)<(mx:Int):=by omega
           obtain ⟨rc,hrc⟩:∃c,rndU uM=c:=⟨_,rfl⟩;rw [hrc] at hsn1;replace hsn1:=Hd hsn1;replace hrc:=Hd hrc;go_wp2_with fail
           refine (Bp hSA4.out h hr hxm.out.1 hxm.out.2).mono ?_;rw [hA2.out];rintro _ w5 ⟨rfl,hb5⟩;have hb15:=hb14.out.trans (hb5.mono hb14.out.size);clear hb5 hSA4 hb14;replace hb15:=Hd hb15;go_wp2_with fail
           refine (Es uM rc (by omega) hrc.out _).mono ?_;rintro _ _ ⟨rfl,rfl⟩;go_wp2
           go_ret2
           refine ⟨?_,hb15.out⟩;rw [hsn1.out];try rfl
         · rw [if_neg hB] at hsn1
           have hBi:¬(mn:Int)<(mx:Int):=by omega
           replace hsn1:=Hd hsn1;go_wp2
           go_ret2
           refine ⟨?_,hb14.out⟩;rw [hsn1.out];try rfl
     · have hne:((xM r:Int) == 9223372036854775808)=false:=by simp;omega
       clear hm63
       go_enter Tryz.func149,Tryz.ntmps149
       go_wp2_with fail
       refine (hl10.out _).mono ?_;rintro _ _ ⟨rfl,rfl⟩;go_wp2_with fail
       refine (hl2.out _).mono ?_;rintro _ _ ⟨rfl,rfl⟩;go_wp2_with fail
       rw [<-hw1.out];refine (Cp hblk.out hc0.out hc1.out hc2.out hP1.out hbg.out hpp.out.1 hpp.out.2 (by omega) (by omega) hl1.1 hl1.2).mono ?_;rintro _ w2 ⟨rfl,hw2⟩;have hSA:=hSAt.out w2 hw2;have hb2:=hBel.out w2 hw2;clear hw2;replace hSA:=Hd hSA;replace hb2:=Hd hb2;go_wp2_with fail
       refine (Bp hSA.out h hr hxl.out.1 hxl.out.2).mono ?_;rw [hA0.out];rintro _ w3 ⟨rfl,hb3⟩;have hSA3:=hSA.out.below hb3;have hb13:=hb2.out.trans (hb3.mono hb2.out.size);clear hb3 hSA hb2;replace hSA3:=Hd hSA3;replace hb13:=Hd hb13;go_wp2_with fail
       refine (C2 uL nL _ (by omega) hn0.out _).mono ?_;rintro _ _ ⟨rfl,rfl⟩;go_wp2_with fail
       refine (ceil_is nL mn (by omega) hcl.out _).mono ?_;rintro _ _ ⟨rfl,rfl⟩;go_wp2_with fail
       refine (Bp hSA3.out h hr hxh.out.1 hxh.out.2).mono ?_;rw [hA1.out];rintro _ w4 ⟨rfl,hb4⟩;have hSA4:=hSA3.out.below hb4;have hb14:=hb13.out.trans (hb4.mono hb13.out.size);clear hb4 hSA3 hb13;replace hSA4:=Hd hSA4;replace hb14:=Hd hb14;go_wp2_with fail
       refine (C2 uH nH _ (by omega) hn1.out _).mono ?_;rintro _ _ ⟨rfl,rfl⟩;go_wp2_with fail
       refine (F7 nH mx (by omega) hfl.out _).mono ?_;rintro _ _ ⟨rfl,rfl⟩;obtain ⟨d1,hd1⟩:∃d,d=mx / 10:=⟨_,rfl⟩;have hdv:(mx:Int).tdiv 10=(d1:Int):=by rw [Int.tdiv_eq_ediv_of_nonneg (by omega)];omega
       have hdv2:(mx:Int) / 10=(d1:Int):=by omega
       have hm10:d1 * 10<=mx:=by omega
       have hmx9:mx<4700000000000000000:=by have:=hfl.out;omega
       have hsn1:=hsn.out;rw [<-hd1] at hsn1;replace hd1:=Hd hd1;by_cases hA:mn<=d1 * 10
       · rw [if_pos hA] at hsn1
         have hAi:(mn:Int)<=(d1:Int) * 10:=by omega
         have hneg:-(p - 1)=1 - p:=by omega
         replace hsn1:=Hd hsn1;replace hneg:=Hd hneg;go_wp2
         go_ret2
         refine ⟨?_,hb14.out⟩;rw [hsn1.out,<-hneg.out];try rfl
       · rw [if_neg hA] at hsn1
         have hAi:¬(mn:Int)<=(d1:Int) * 10:=by omega
         by_cases hB:mn<mx
         · rw [if_pos hB] at hsn1
           have hBi:(mn:Int)<(mx:Int):=by omega
           obtain ⟨rc,hrc⟩:∃c,rndU uM=c:=⟨_,rfl⟩;rw [hrc] at hsn1;replace hsn1:=Hd hsn1;replace hrc:=Hd hrc;go_wp2_with fail
           refine (Bp hSA4.out h hr hxm.out.1 hxm.out.2).mono ?_;rw [hA2.out];rintro _ w5 ⟨rfl,hb5⟩;have hb15:=hb14.out.trans (hb5.mono hb14.out.size);clear hb5 hSA4 hb14;replace hb15:=Hd hb15;go_wp2_with fail
           refine (Es uM rc (by omega) hrc.out _).mono ?_;rintro _ _ ⟨rfl,rfl⟩;go_wp2
           go_ret2
           refine ⟨?_,hb15.out⟩;rw [hsn1.out];try rfl
         · rw [if_neg hB] at hsn1
           have hBi:¬(mn:Int)<(mx:Int):=by omega
           replace hsn1:=Hd hsn1;go_wp2
           go_ret2
           refine ⟨?_,hb14.out⟩;rw [hsn1.out];try rfl
end Go.Proofs.YtagkgfniihiinaaGreatDoor
