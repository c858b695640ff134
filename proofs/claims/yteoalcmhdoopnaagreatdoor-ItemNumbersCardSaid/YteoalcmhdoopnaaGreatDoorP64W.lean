/- internal/strconv.parseFloat64: its walk. -/
import Derived.Test.YteoalcmhdoopnaaGreatDoorJ31
import Derived.Test.YteoalcmhdoopnaaGreatDoorFtoa
namespace Go.Proofs.YteoalcmhdoopnaaGreatDoor
open Go.RowKit
theorem unmin_any (w:World):Calls Tryz.prog 140 #[.int .u64 9007199254740992] w fun e w' => e=.returned (.int .u64 36028797018963966)/\w' = w:=by
 go_enter Tryz.func140,Tryz.ntmps140
 go_wp2;go_ret;exact ⟨rfl,rfl⟩
theorem bool2i_any (b:Bool) (w:World):Calls Tryz.prog 98 #[.bool b] w fun e w' => e=.returned (.int .i64 (b.toNat:Int))/\w' = w:=by
 cases b
 · go_enter Tryz.func98,Tryz.ntmps98
   go_wp2;go_ret;exact ⟨rfl,rfl⟩
 · go_enter Tryz.func98,Tryz.ntmps98
   go_wp2;go_ret;exact ⟨rfl,rfl⟩
theorem stick_top {q:Nat} (b:Bool) (h:q<=72057594037927919):A5 q b<=72057594037927919:=by cases b<;>simp [A5]<;>omega
theorem parse_u {d s:Nat} {p:Int} (hd:0<d) (hd2:d<18446744073709551616) (h0:-348<=p) (h1:p<=347) (hs:8<=s) :
   Bg 18446744073709551616 (d * 2 ^ (64 - Ag d)) (hiT p) (loT p) s<=72057594037927919:=by
 obtain ⟨n0,n1⟩:=norm64 hd hd2
 obtain ⟨b1,_,_⟩:=y_bounds (s:=s) h0 h1 n0 n1 hs
 rw [uscale_p h0 h1 hs n0 n1]
 have hE:0<tD p * (18446744073709551616 * 18446744073709551616) * 2 ^ s:=Nat.mul_pos (Nat.mul_pos (Cm p) (by decide)) (Nat.two_pow_pos s)
 have hT8:1<=2 ^ (s - 8):=Nat.two_pow_pos _
 generalize d * 2 ^ (64 - Ag d) * tN p=y at *
 generalize tD p * (18446744073709551616 * 18446744073709551616) * 2 ^ s=E at *
 have hy:y<72057594037927920 * E:=Nat.lt_of_le_of_lt (Nat.le_mul_of_pos_right _ hT8) b1
 unfold unr
 refine stick_top _ ?_
 have:y / E<72057594037927920:=(Nat.div_lt_iff_lt_mul hE).2 hy
 omega
theorem hi_one {d:Nat} {p:Int} (hd:0<d) (hd2:d<18446744073709551616) (h0:-348<=p) (h1:p<=347):1<=d * 2 ^ (64 - Ag d) * hiT p / 18446744073709551616:=by
 obtain ⟨n0,n1⟩:=norm64 hd hd2;have:=(hi_lt h0 h1).1;have:9223372036854775808 * 9223372036854775808<=d * 2 ^ (64 - Ag d) * hiT p:=Nat.mul_le_mul n0 this;omega
theorem stick_or (q u:Nat):q ||| (u % 2)=A5 q (decide (u % 2=1)):=by
 have h:u % 2=(decide (u % 2=1)).toNat:=by
   rcases Nat.mod_two_eq_zero_or_one u with h | h<;>simp [h]
 conv=>lhs;rw [h]
 exact Fx _ _
theorem stick_self (u:Nat):A5 u (decide (u % 2=1))=u:=by
 unfold A5;rcases Nat.mod_two_eq_zero_or_one u with h | h
 · simp [h]
 · simp [h];omega
set_option maxRecDepth 100000 in
set_option maxHeartbeats 6400000 in
theorem E5 {d:Nat} {p:Int} {sb:Bool} (hd:0<d) (hd2:d<18446744073709551616) (h0:-345<=p) (h1:p<=310) {w:World} (hP:Pows w) :
   Calls Tryz.prog 125 #[.int .u64 (d:Int),.int .i64 p,.int .u64 ((sgB sb:Nat):Int)] w fun e w' => e=.returned (.tuple #[.float .f64 (sgB sb+Bk d p),A4 (Bk d p)])/\Below w.heap.size w w' := by
 obtain ⟨n0,n1⟩:=norm64 hd hd2
 have hl:=Dx hd2
 obtain ⟨_,_,hl1⟩:=Ej hd
 have hs8:8<=parS d p:=by unfold parS parE;omega
 have hke:parE d p<=1074:=by unfold parE;omega
 have hE0:parE d p=min 1074 (53 - Ag d - lp10 p):=rfl
 have hS0:parS d p=-(parE d p - (64 - Ag d)+lp10 p+3):=rfl
 have hlpb:-1200<=lp10 p/\lp10 p<=1200:=by unfold lp10;omega
 obtain ⟨s,hs⟩:∃s:Nat,parS d p=s:=⟨(parS d p).toNat,by omega⟩
 obtain ⟨k,hk⟩:∃k:Nat,parE d p=1074 - k:=⟨(1074 - parE d p).toNat,by omega⟩
 have hu9:=parse_u (d:=d) (s:=s) hd hd2 (p:=p) (by omega) (by omega) (by omega)
 have hh1:=hi_one (d:=d) (p:=p) hd hd2 (by omega) (by omega)
 have hhl:=(hi_lt (p:=p) (by omega) (by omega)).2
 have hll:=lo_lt p
 obtain ⟨u,hu⟩:∃u,u=Bg 18446744073709551616 (d * 2 ^ (64 - Ag d)) (hiT p) (loT p) s:=⟨_,rfl⟩
 have hN:Bk d p=if 64<=s then 0 else if 36028797018963966<=u then Ce (rndU (A5 (u / 2) (decide (u % 2=1)))) (k+1) else Ce (rndU u) k:=by
   unfold Bk;rw [hs,hk,Int.toNat_natCast,<-hu,show (1075 - (1074 - (k:Int))).toNat=k+1 by omega,show (1074 - (1074 - (k:Int))).toNat=k by omega];by_cases h:64<=s
   · rw [if_pos (by omega),if_pos h]
   · rw [if_neg (by omega),if_neg h]
 rw [<-hu] at hu9
 obtain ⟨B,hB⟩:∃B,B=Ag d:=⟨_,rfl⟩
 obtain ⟨X,hX⟩:∃X,X=d * 2 ^ (64 - Ag d):=⟨_,rfl⟩
 obtain ⟨l,hle⟩:∃l,l=lp10 p:=⟨_,rfl⟩
 obtain ⟨R,hR⟩:∃R,R=Bk d p:=⟨_,rfl⟩
 rw [<-hX] at hh1 hu n0 n1
 rw [<-hB] at hl hl1 hE0 hS0 hX
 rw [<-hle] at hE0 hS0 hlpb
 rw [hk] at hE0 hS0 hke
 rw [hs] at hs8 hS0
 rw [<-hR] at hN ⊢
 have hk9:k<=3000:=by omega
 have hs9:s<=6000:=by omega
 have c1:∀w,Calls Tryz.prog 97 #[.int .u64 (d:Int)] w fun e w' => e=.returned (.int .i64 (B:Int))/\w' = w:=fun w=>by
   have:=Tryz.bits_Len64 (d:Int) w (by omega) (by omega);rwa [Int.toNat_natCast,E8 hd2,<-hB] at this
 have c2:=fun w=>log2P_any p (by omega) (by omega) w
 rw [<-hle] at c2
 obtain ⟨e1,he1⟩:∃e1:Int,min 1074 (53 - (B:Int) - l)=e1:=⟨_,rfl⟩
 have he1k:e1=1074 - (k:Int):=by omega
 obtain ⟨b6,hb6⟩:∃b6:Nat,(64:Int) - (B:Int)=(b6:Int):=⟨64 - B,by omega⟩
 have hb6n:64 - B=b6:=by omega
 rw [hb6n] at hX
 obtain ⟨e2,he2⟩:∃e2:Int,e1 - (b6:Int)=e2:=⟨_,rfl⟩
 have hsv:-(e2+l+3)=(s:Int):=by omega
 have hXi:(d:Int) * 2 ^ b6=(X:Int):=by rw [hX];simp
 have hb69:b6<=63:=by omega
 have he19:-3000<=e1/\e1<=1074:=by omega
 have he29:-3000<=e2/\e2<=1074:=by omega
 obtain ⟨w1,hw1⟩:∃w1,w1=w.alloc (.cells #[.int .u64 0,.int .u64 0,.int .i64 0] 181):=⟨_,rfl⟩
 have hb1:Below w.heap.size w w1:=by rw [hw1];exact (Below.refl _ _).alloc (Nat.le_refl _) _
 have hP1:Pows w1:=hP.below hb1 hP.lt
 have hblk:Blk w1 w.heap.size:=by rw [hw1];exact Blk.new _ _ _
 have hc0:w1.cell? ⟨w.heap.size,0,none⟩=some (.int .u64 0):=by rw [hw1,World.cell?_alloc_new];rfl
 have hc1:w1.cell? ⟨w.heap.size,1,none⟩=some (.int .u64 0):=by rw [hw1,World.cell?_alloc_new];rfl
 have hc2:w1.cell? ⟨w.heap.size,2,none⟩=some (.int .i64 0):=by rw [hw1,World.cell?_alloc_new];rfl
 have hbg:w.heap.size≠13:=by have:=hP.lt;omega
 have hpre:=Bv (e:=e2) (p:=p) (l:=l) hblk hc0 hc1 hc2 hP1 hbg (by omega) (by omega) (by omega) (by omega) (by omega) (by omega)
 rw [hsv] at hpre
 obtain ⟨w2,hw2⟩:∃w2,w2=((w1.setCell ⟨w.heap.size,0,none⟩ (.int .u64 (hiT p:Int))).setCell ⟨w.heap.size,1,none⟩ (.int .u64 (loT p:Int))).setCell ⟨w.heap.size,2,none⟩ (.int .i64 (s:Int)):=⟨_,rfl⟩
 rw [<-hw2] at hpre
 have hb2:Below w.heap.size w w2:=by
   rw [hw2];refine hb1.trans ?_;exact ((((Fr.refl (fun k=>k=w.heap.size) w1).setCell (fun _=>rfl) _).setCell (fun _=>rfl) _).setCell (fun _=>rfl) _).below hb1.size (fun i hi e=>by omega)
 have d0:w2.cell? ⟨w.heap.size,0,none⟩=some (.int .u64 (hiT p:Int)):=by rw [hw2,Ab (by simp),Ab (by simp)];exact Ar hc0
 have d1:w2.cell? ⟨w.heap.size,1,none⟩=some (.int .u64 (loT p:Int)):=by rw [hw2,Ab (by simp)];exact Ar (by rw [Ab (by simp)];exact hc1)
 have d2:w2.cell? ⟨w.heap.size,2,none⟩=some (.int .i64 (s:Int)):=by rw [hw2];exact Ar (by rw [Ab (by simp),Ab (by simp)];exact hc2)
 have f1:=fun w=>B0 (sgB sb) w
 have o0:bits .or .u64 ((sgB sb:Nat):Int) 0=((sgB sb:Nat):Int):=by
   have h1:=Aw (x:=sgB sb) (y:=0) (by unfold sgB;split<;>omega) (by omega);rw [Nat.or_zero] at h1;exact h1
 obtain ⟨SG,hSG⟩:∃SG,SG=sgB sb:=⟨_,rfl⟩
 replace c1:=Hd c1
 replace c2:=Hd c2
 replace hpre:=Hd hpre
 replace hw2:=Hd hw2
 replace hw1e:=Hd hw1
 replace hb2:=Hd hb2
 replace hX:=Hd hX
 replace hu:=Hd hu
 replace hN:=Hd hN
 replace hR:=Hd hR
 replace hB:=Hd hB
 replace hle:=Hd hle
 replace he1k:=Hd he1k
 replace hS0:=Hd hS0
 replace hE0:=Hd hE0
 replace hh1:=Hd hh1
 clear hP hP1 hblk hc0 hc1 hc2 hb1 hs hk hsv
 by_cases h64:64<=s
 · have hR0:R=0:=by rw [hN.out,if_pos h64]
   have hr0:A4 0=.nilIface:=if_neg (by decide);rw [hR0,hr0,Nat.add_zero,<-hSG];rw [<-hSG] at f1 o0;have h64i:(64:Int)<=(s:Int):=by omega
   replace hSG:=Hd hSG;clear hR0 hr0
   go_enter Tryz.func125,Tryz.ntmps125
   go_wp2_with fail
   refine (c1.out _).mono ?_;rintro e w' ⟨rfl,hww⟩;obtain rfl:=hww.symm;clear hww;go_wp2_with fail
   refine (c2.out _).mono ?_;rintro e w' ⟨rfl,hww⟩;obtain rfl:=hww.symm;clear hww;go_wp2_with fail
   rw [<-hw1e.out];refine hpre.out.mono ?_;rintro e w' ⟨rfl,hww⟩;obtain rfl:=hww.symm;clear hww;go_wp2
   go_ret2
   exact ⟨rfl,hb2.out⟩
 · have h64i:¬(64:Int)<=(s:Int):=by omega
   have hus:=En (w:=w2) (b:=w.heap.size) (x:=X) (hi:=hiT p) (lo:=loT p) (s:=s) n1 hhl hll (by omega) hh1.out d0 d1 d2;rw [<-hu.out] at hus;replace hus:=Hd hus;have hNN:=hN.out;rw [if_neg h64] at hNN;have hu64:(u:Int)<=72057594037927919:=by omega
   clear n0 hhl hll;by_cases hbig:36028797018963966<=u
   · rw [if_pos hbig] at hNN
     have hbi:(36028797018963966:Int)<=(u:Int):=by omega
     have cb:=bool2i_any true;obtain ⟨h,hh⟩:∃h,h=u / 2:=⟨_,rfl⟩;have hdv:(u:Int) / 2=(h:Int):=by omega
     obtain ⟨b,hb⟩:∃b,b=u % 2:=⟨_,rfl⟩;have hmd:(u:Int) % 2=(b:Int):=by omega
     have hand:bits .and .u64 (u:Int) 1=(b:Int):=by
       have:=A7 (x:=u) (y:=1) (by omega) (by omega);rw [and_1,<-hb] at this;exact this
     obtain ⟨v,hv⟩:∃v,v=A5 (u / 2) (decide (u % 2=1)):=⟨_,rfl⟩;have hor:bits .or .u64 (h:Int) (b:Int)=(v:Int):=by
       have:=Aw (x:=h) (y:=b) (by omega) (by omega);rw [hh,hb,stick_or,<-hv] at this;rw [hh,hb];exact this
     have hv9:v<=36028797018963960:=by rw [hv];unfold A5;split<;>omega
     obtain ⟨m,hm⟩:∃m,m=rndU v:=⟨_,rfl⟩;have hm9:m<9007199254740992:=by rw [hm];unfold rndU;omega
     rw [<-hv,<-hm] at hNN;have hRR:=hNN;have cr:=fun w=>Cy v m (by omega) hm.symm w;obtain ⟨e3,he3⟩:∃e3:Int,e1 - 1=e3:=⟨_,rfl⟩;have hkk:(((k+1:Nat):Int) - 1074)=-e3:=by have:=he1k.out;omega
     have he39:-3001<=e3/\e3<=1074:=by omega
     replace cb:=Hd cb;replace cr:=Hd cr;replace hh:=Hd hh;replace hb:=Hd hb;replace hv:=Hd hv;replace hm:=Hd hm;clear hNN hbig;have hpk:=fun w=>pack64_any (m:=m) (k:=(k+1)) (sb:=sb) hm9 (by omega) w;have hRe:R=Ce m (k+1):=hRR;rw [<-hRe,<-hSG,hkk] at hpk;replace hkk:=Hd hkk;have hor2:bits .or .u64 (SG:Int) ((m:Nat):Int)=((SG+m:Nat):Int):=by
       have h1:=Aw (x:=SG) (y:=m) (by rw [hSG];unfold sgB;split<;>omega) (by omega);rw [hSG,sgB_or sb (by omega),<-hSG] at h1;rw [hSG] at h1 ⊢;exact h1
     obtain ⟨Z,hZ⟩:∃Z,Z=SG+m:=⟨_,rfl⟩;rw [<-hZ] at hpk hor2;obtain ⟨G,hG⟩:∃G,G=SG+R:=⟨_,rfl⟩;obtain ⟨ER,hER⟩:∃ER,ER=A4 R:=⟨_,rfl⟩;rw [<-hG,<-hER] at hpk;rw [<-hSG,<-hG,<-hER];replace hpk:=Hd hpk;replace hSG:=Hd hSG;replace hZ:=Hd hZ;replace hG:=Hd hG;replace hER:=Hd hER;replace hRe:=Hd hRe;clear hRR hu9 hN f1 o0
     go_enter Tryz.func125,Tryz.ntmps125
     go_wp2_with fail
     refine (c1.out _).mono ?_;rintro e w' ⟨rfl,hww⟩;obtain rfl:=hww.symm;clear hww;go_wp2_with fail
     refine (c2.out _).mono ?_;rintro e w' ⟨rfl,hww⟩;obtain rfl:=hww.symm;clear hww;go_wp2_with fail
     rw [<-hw1e.out];refine hpre.out.mono ?_;rintro e w' ⟨rfl,hww⟩;obtain rfl:=hww.symm;clear hww;go_wp2_with fail
     refine hus.out.mono ?_;rintro e w3 ⟨rfl,hb3⟩;have hb03:=hb2.out.trans (hb3.mono hb2.out.size);replace hb03:=Hd hb03;clear hb3;go_wp2_with fail
     refine (unmin_any _).mono ?_;rintro e w' ⟨rfl,hww⟩;obtain rfl:=hww.symm;clear hww;go_wp2_with fail
     refine (cb.out _).mono ?_;rintro e w' ⟨rfl,hww⟩;obtain rfl:=hww.symm;clear hww;go_wp2_with fail
     refine (cr.out _).mono ?_;rintro e w' ⟨rfl,hww⟩;obtain rfl:=hww.symm;clear hww;go_wp2_with fail
     refine (hpk.out _).mono ?_;rintro e w' ⟨rfl,hww⟩;obtain rfl:=hww.symm;clear hww;go_wp2
     go_ret2
     exact ⟨rfl,hb03.out⟩
   · rw [if_neg hbig] at hNN
     have hbi:decide ((36028797018963966:Int)<=(u:Int))=false:=decide_eq_false (by omega);have cb:=bool2i_any false;obtain ⟨b,hb⟩:∃b,b=u % 2:=⟨_,rfl⟩;have hmd:(u:Int) % 2=(b:Int):=by omega
     have hand:bits .and .u64 (u:Int) 1=(b:Int):=by
       have:=A7 (x:=u) (y:=1) (by omega) (by omega);rw [and_1,<-hb] at this;exact this
     have hor:bits .or .u64 (u:Int) (b:Int)=(u:Int):=by
       have:=Aw (x:=u) (y:=b) (by omega) (by omega);rw [hb,stick_or,stick_self] at this;rw [hb];exact this
     obtain ⟨m,hm⟩:∃m,m=rndU u:=⟨_,rfl⟩;have hm9:m<9007199254740992:=by rw [hm];unfold rndU;omega
     rw [<-hm] at hNN;have hRR:=hNN;have cr:=fun w=>Cy u m (by omega) hm.symm w;have hkk:((k:Int) - 1074)=-e1:=by have:=he1k.out;omega
     replace cb:=Hd cb;replace cr:=Hd cr;replace hb:=Hd hb;replace hm:=Hd hm;clear hNN hbig;have hpk:=fun w=>pack64_any (m:=m) (k:=k) (sb:=sb) hm9 (by omega) w;have hRe:R=Ce m k:=hRR;rw [<-hRe,<-hSG,hkk] at hpk;replace hkk:=Hd hkk;have hor2:bits .or .u64 (SG:Int) ((m:Nat):Int)=((SG+m:Nat):Int):=by
       have h1:=Aw (x:=SG) (y:=m) (by rw [hSG];unfold sgB;split<;>omega) (by omega);rw [hSG,sgB_or sb (by omega),<-hSG] at h1;rw [hSG] at h1 ⊢;exact h1
     obtain ⟨Z,hZ⟩:∃Z,Z=SG+m:=⟨_,rfl⟩;rw [<-hZ] at hpk hor2;obtain ⟨G,hG⟩:∃G,G=SG+R:=⟨_,rfl⟩;obtain ⟨ER,hER⟩:∃ER,ER=A4 R:=⟨_,rfl⟩;rw [<-hG,<-hER] at hpk;rw [<-hSG,<-hG,<-hER];replace hpk:=Hd hpk;replace hSG:=Hd hSG;replace hZ:=Hd hZ;replace hG:=Hd hG;replace hER:=Hd hER;replace hRe:=Hd hRe;clear hRR hu9 hN f1 o0
     go_enter Tryz.func125,Tryz.ntmps125
     go_wp2_with fail
     refine (c1.out _).mono ?_;rintro e w' ⟨rfl,hww⟩;obtain rfl:=hww.symm;clear hww;go_wp2_with fail
     refine (c2.out _).mono ?_;rintro e w' ⟨rfl,hww⟩;obtain rfl:=hww.symm;clear hww;go_wp2_with fail
     rw [<-hw1e.out];refine hpre.out.mono ?_;rintro e w' ⟨rfl,hww⟩;obtain rfl:=hww.symm;clear hww;go_wp2_with fail
     refine hus.out.mono ?_;rintro e w3 ⟨rfl,hb3⟩;have hb03:=hb2.out.trans (hb3.mono hb2.out.size);replace hb03:=Hd hb03;clear hb3;go_wp2_with fail
     refine (unmin_any _).mono ?_;rintro e w' ⟨rfl,hww⟩;obtain rfl:=hww.symm;clear hww;go_wp2_with fail
     refine (cb.out _).mono ?_;rintro e w' ⟨rfl,hww⟩;obtain rfl:=hww.symm;clear hww;go_wp2_with fail
     refine (cr.out _).mono ?_;rintro e w' ⟨rfl,hww⟩;obtain rfl:=hww.symm;clear hww;go_wp2_with fail
     refine (hpk.out _).mono ?_;rintro e w' ⟨rfl,hww⟩;obtain rfl:=hww.symm;clear hww;go_wp2
     go_ret2
     exact ⟨rfl,hb03.out⟩
end Go.Proofs.YteoalcmhdoopnaaGreatDoor
