/- internal/strconv.parseFloat64: its walk. -/
import Derived.Test.YteoalcmhdoopnaaGreatDoorJ33
import Derived.Test.YteoalcmhdoopnaaGreatDoorFtoa
namespace Go.Proofs.YteoalcmhdoopnaaGreatDoor
open Go.RowKit
theorem unmin_any (w:World):Calls Tryz.prog 140 #[.int .u64 9007199254740992] w fun e w' => e=.returned (.int .u64 36028797018963966)/\w' = w:=by
 go_enter Tryz.func140,Tryz.ntmps140
 go_wp2;go_ret;exact ⟨rfl,rfl⟩
theorem bool2i_any (b:Bool) (w:World):Calls Tryz.prog 98 #[.bool b] w fun e w' => e=.returned (.int .i64 (b.toNat:Int))/\w' = w:=by
 cases b
 · go_enter Tryz.func98,Tryz.ntmps98
   go_wp2;go_ret;exact ⟨rfl,rfl⟩
 · go_enter Tryz.func98,Tryz.ntmps98
   go_wp2;go_ret;exact ⟨rfl,rfl⟩
theorem stick_top {q:Nat} (b:Bool) (h:q<=72057594037927919):A0 q b<=72057594037927919:=by cases b<;>simp [A0]<;>omega
theorem parse_u {d s:Nat} {p:Int} (hd:0<d) (hd2:d<18446744073709551616) (h0:-348<=p) (h1:p<=347) (hs:8<=s) :
   Bd 18446744073709551616 (d * 2 ^ (64 - Ag d)) (hiT p) (loT p) s<=72057594037927919:=by
 obtain ⟨n0,n1⟩:=norm64 hd hd2
 obtain ⟨b1,_,_⟩:=y_bounds (s:=s) h0 h1 n0 n1 hs
 rw [uscale_p h0 h1 hs n0 n1]
 have hE:0<tD p * (18446744073709551616 * 18446744073709551616) * 2 ^ s:=Nat.mul_pos (Nat.mul_pos (Cj p) (by decide)) (Nat.two_pow_pos s)
 have hT8:1<=2 ^ (s - 8):=Nat.two_pow_pos _
 generalize d * 2 ^ (64 - Ag d) * tN p=y at *
 generalize tD p * (18446744073709551616 * 18446744073709551616) * 2 ^ s=E at *
 have hy:y<72057594037927920 * E:=Nat.lt_of_le_of_lt (Nat.le_mul_of_pos_right _ hT8) b1
 unfold unr
 refine stick_top _ ?_
 have:y / E<72057594037927920:=(Nat.div_lt_iff_lt_mul hE).2 hy
 omega
theorem hi_one {d:Nat} {p:Int} (hd:0<d) (hd2:d<18446744073709551616) (h0:-348<=p) (h1:p<=347):1<=d * 2 ^ (64 - Ag d) * hiT p / 18446744073709551616:=by
 obtain ⟨n0,n1⟩:=norm64 hd hd2;have:=(hi_lt h0 h1).1;have:9223372036854775808 * 9223372036854775808<=d * 2 ^ (64 - Ag d) * hiT p:=Nat.mul_le_mul n0 this;omega
theorem stick_or (q u:Nat):q ||| (u % 2)=A0 q (decide (u % 2=1)):=by
 have h:u % 2=(decide (u % 2=1)).toNat:=by
   rcases Nat.mod_two_eq_zero_or_one u with h | h<;>simp [h]
 conv=>lhs;rw [h]
 exact Fz _ _
theorem stick_self (u:Nat):A0 u (decide (u % 2=1))=u:=by
 unfold A0;rcases Nat.mod_two_eq_zero_or_one u with h | h
 · simp [h]
 · simp [h];omega
set_option maxRecDepth 100000 in
set_option maxHeartbeats 6400000 in
theorem Ea {d:Nat} {p:Int} {sb:Bool} (hd:0<d) (hd2:d<18446744073709551616) (h0:-345<=p) (h1:p<=310) {w:World} (hP:Pows w) :
   Calls Tryz.prog 125 #[.int .u64 (d:Int),.int .i64 p,.int .u64 ((sgB sb:Nat):Int)] w fun e w' => e=.returned (.tuple #[.float .f64 (sgB sb+Be d p),Ay (Be d p)])/\Below w.heap.size w w' := by
 obtain ⟨n0,n1⟩:=norm64 hd hd2
 have hl:=Dq hd2
 obtain ⟨_,_,hl1⟩:=Dx hd
 have hs8:8<=parS d p:=by unfold parS parE;omega
 have hke:parE d p<=1074:=by unfold parE;omega
 have hE0:parE d p=min 1074 (53 - Ag d - lp10 p):=rfl
 have hS0:parS d p=-(parE d p - (64 - Ag d)+lp10 p+3):=rfl
 have hlpb:-1200<=lp10 p/\lp10 p<=1200:=by unfold lp10;omega
 obtain ⟨s,hs⟩:∃s:Nat,parS d p=s:=⟨(parS d p).toNat,by omega⟩
 obtain ⟨k,hk⟩:∃k:Nat,parE d p=1074 - k:=⟨(1074 - parE d p).toNat,by omega⟩
 have hu9:=parse_u (d:=d) (s:=s) hd hd2 (p:=p) (by omega) (by omega) (by omega)
 have hh1:=hi_one (d:=d) (p:=p) hd hd2 (by omega) (by omega)
 have hhl:=(hi_lt (p:=p) (by omega) (by omega)).2
 have hll:=lo_lt p
 obtain ⟨u,hu⟩:∃u,u=Bd 18446744073709551616 (d * 2 ^ (64 - Ag d)) (hiT p) (loT p) s:=⟨_,rfl⟩
 have hN:Be d p=if 64<=s then 0 else if 36028797018963966<=u then Cd (rndU (A0 (u / 2) (decide (u % 2=1)))) (k+1) else Cd (rndU u) k:=by
   unfold Be;rw [hs,hk,Int.toNat_natCast,<-hu,show (1075 - (1074 - (k:Int))).toNat=k+1 by omega,show (1074 - (1074 - (k:Int))).toNat=k by omega];by_cases h:64<=s
   · rw [if_pos (by omega),if_pos h]
   · rw [if_neg (by omega),if_neg h]
 rw [<-hu] at hu9
 obtain ⟨B,hB⟩:∃B,B=Ag d:=⟨_,rfl⟩
 obtain ⟨X,hX⟩:∃X,X=d * 2 ^ (64 - Ag d):=⟨_,rfl⟩
 obtain ⟨l,hle⟩:∃l,l=lp10 p:=⟨_,rfl⟩
 obtain ⟨R,hR⟩:∃R,R=Be d p:=⟨_,rfl⟩
 rw [<-hX] at hh1 hu n0 n1
 rw [<-hB] at hl hl1 hE0 hS0 hX
 rw [<-hle] at hE0 hS0 hlpb
 rw [hk] at hE0 hS0 hke
 rw [hs] at hs8 hS0
 rw [<-hR] at hN ⊢
 have hk9:k<=3000:=by omega
 have hs9:s<=6000:=by omega
 have c1:∀w,Calls Tryz.prog 97 #[.int .u64 (d:Int)] w fun e w' => e=.returned (.int .i64 (B:Int))/\w' = w:=fun w=>by
   have:=Tryz.bits_Len64 (d:Int) w (by omega) (by omega);rwa [Int.toNat_natCast,Eu hd2,<-hB] at this
 have c2:=fun w=>Gc p (by omega) (by omega) w
 rw [<-hle] at c2
 obtain ⟨e1,he1⟩:∃e1:Int,min 1074 (53 - (B:Int) - l)=e1:=⟨_,rfl⟩
 have he1k:e1=1074 - (k:Int):=by omega
 obtain ⟨b6,hb6⟩:∃b6:Nat,(64:Int) - (B:Int)=(b6:Int):=⟨64 - B,by omega⟩
 have hb6n:64 - B=b6:=by omega
 rw [hb6n] at hX
 obtain ⟨e2,he2⟩:∃e2:Int,e1 - (b6:Int)=e2:=⟨_,rfl⟩
 have hsv:-(e2+l+3)=(s:Int):=by omega
 have hXi:(d:Int) * 2 ^ b6=(X:Int):=by rw [hX];simp
 have hb69:b6<=63:=by omega
 have he19:-3000<=e1/\e1<=1074:=by omega
 have he29:-3000<=e2/\e2<=1074:=by omega
 obtain ⟨w1,hw1⟩:∃w1,w1=w.alloc (.cells #[.int .u64 0,.int .u64 0,.int .i64 0] 181):=⟨_,rfl⟩
 have hb1:Below w.heap.size w w1:=by rw [hw1];exact (Below.refl _ _).alloc (Nat.le_refl _) _
 have hP1:Pows w1:=hP.below hb1 hP.lt
 have hblk:Blk w1 w.heap.size:=by rw [hw1];exact Blk.new _ _ _
 have hc0:w1.cell? ⟨w.heap.size,0,none⟩=some (.int .u64 0):=by rw [hw1,World.cell?_alloc_new];rfl
 have hc1:w1.cell? ⟨w.heap.size,1,none⟩=some (.int .u64 0):=by rw [hw1,World.cell?_alloc_new];rfl
 have hc2:w1.cell? ⟨w.heap.size,2,none⟩=some (.int .i64 0):=by rw [hw1,World.cell?_alloc_new];rfl
 have hbg:w.heap.size≠13:=by have:=hP.lt;omega
 have hpre:=Bs (e:=e2) (p:=p) (l:=l) hblk hc0 hc1 hc2 hP1 hbg (by omega) (by omega) (by omega) (by omega) (by omega) (by omega)
 rw [hsv] at hpre
 obtain ⟨w2,hw2⟩:∃w2,w2=((w1.setCell ⟨w.heap.size,0,none⟩ (.int .u64 (hiT p:Int))).setCell ⟨w.heap.size,1,none⟩ (.int .u64 (loT p:Int))).setCell ⟨w.heap.size,2,none⟩ (.int .i64 (s:Int)):=⟨_,rfl⟩
 rw [<-hw2] at hpre
 have hb2:Below w.heap.size w w2:=by
   rw [hw2];refine hb1.trans ?_;exact ((((Fr.refl (fun k=>k=w.heap.size) w1).setCell (fun _=>rfl) _).setCell (fun _=>rfl) _).setCell (fun _=>rfl) _).below hb1.size (fun i hi e=>by omega)
 have d0:w2.cell? ⟨w.heap.size,0,none⟩=some (.int .u64 (hiT p:Int)):=by rw [hw2,Ab (by simp),Ab (by simp)];exact Ao hc0
 have d1:w2.cell? ⟨w.heap.size,1,none⟩=some (.int .u64 (loT p:Int)):=by rw [hw2,Ab (by simp)];exact Ao (by rw [Ab (by simp)];exact hc1)
 have d2:w2.cell? ⟨w.heap.size,2,none⟩=some (.int .i64 (s:Int)):=by rw [hw2];exact Ao (by rw [Ab (by simp),Ab (by simp)];exact hc2)
 have f1:=fun w=>Bu (sgB sb) w
 have o0:bits .or .u64 ((sgB sb:Nat):Int) 0=((sgB sb:Nat):Int):=by
   have h1:=As (x:=sgB sb) (y:=0) (by unfold sgB;split<;>omega) (by omega);rw [Nat.or_zero] at h1;exact h1
 obtain ⟨SG,hSG⟩:∃SG,SG=sgB sb:=⟨_,rfl⟩
 replace c1:=Hd c1
 replace c2:=Hd c2
 replace hpre:=Hd hpre
 replace hw2:=Hd hw2
 replace hw1e:=Hd hw1
 replace hb2:=Hd hb2
 replace hX:=Hd hX
 replace hu:=Hd hu
 replace hN:=Hd hN
 replace hR:=Hd hR
 replace hB:=Hd hB
 replace hle:=Hd hle
 replace he1k:=Hd he1k
 replace hS0:=Hd hS0
 replace hE0:=Hd hE0
 replace hh1:=Hd hh1
 clear hP hP1 hblk hc0 hc1 hc2 hb1 hs hk hsv
 by_cases h64:64<=s
 · have hR0:R=0:=by rw [hN.out,if_pos h64]
   have hr0:Ay 0=.nilIface:=if_neg (by decide);rw [hR0,hr0,Nat.add_zero,<-hSG];rw [<-hSG] at f1 o0;have h64i:(64:Int)<=(s:Int):=by omega
   replace hSG:=Hd hSG;clear hR0 hr0
   go_enter Tryz.func125,Tryz.ntmps125
   go_wp2_with fail
   refine (c1.out _).mono ?_;rintro e w' ⟨rfl,hww⟩;obtain rfl:=hww.symm;clear hww;go_wp2_with fail
   refine (c2.out _).mono ?_;rintro e w' ⟨rfl,hww⟩;obtain rfl:=hww.symm;clear hww;go_wp2_with fail
   rw [<-hw1e.out];refine hpre.out.mono ?_;rintro e w' ⟨rfl,hww⟩;obtain rfl:=hww.symm;clear hww;go_wp2
   go_ret2
   exact ⟨rfl,hb2.out⟩
 · have h64i:¬(64:Int)<=(s:Int):=by omega
   have hus:=Eh (w:=w2) (b:=w.heap.size) (x:=X) (hi:=hiT p) (lo:=loT p) (s:=s) n1 hhl hll (by omega) hh1.out d0 d1 d2;rw [<-hu.out] at hus;replace hus:=Hd hus;have hNN:=hN.out;rw [if_neg h64] at hNN;have hu64:(u:Int)<=72057594037927919:=by omega
   clear n0 hhl hll;by_cases hbig:36028797018963966<=u
   · rw [if_pos hbig] at hNN
     have hbi:(36028797018963966:Int)<=(u:Int):=by omega
     have cb:=bool2i_any true;obtain ⟨h,hh⟩:∃h,h=u / 2:=⟨_,rfl⟩;have hdv:(u:Int) / 2=(h:Int):=by omega
     obtain ⟨b,hb⟩:∃b,b=u % 2:=⟨_,rfl⟩;have hmd:(u:Int) % 2=(b:Int):=by omega
     have hand:bits .and .u64 (u:Int) 1=(b:Int):=by
       have:=Aw (x:=u) (y:=1) (by omega) (by omega);rw [and_1,<-hb] at this;exact this
     obtain ⟨v,hv⟩:∃v,v=A0 (u / 2) (decide (u % 2=1)):=⟨_,rfl⟩;have hor:bits .or .u64 (h:Int) (b:Int)=(v:Int):=by
       have:=As (x:=h) (y:=b) (by omega) (by omega);rw [hh,hb,stick_or,<-hv] at this;rw [hh,hb];exact this
     have hv9:v<=36028797018963960:=by rw [hv];unfold A0;split<;>omega
     obtain ⟨m,hm⟩:∃m,m=rndU v:=⟨_,rfl⟩;have hm9:m<9007199254740992:=by rw [hm];unfold rndU;omega
     rw [<-hv,<-hm] at hNN;have hRR:=hNN;have cr:=fun w=>Cs v m (by omega) hm.symm w;obtain ⟨e3,he3⟩:∃e3:Int,e1 - 1=e3:=⟨_,rfl⟩;have hkk:(((k+1:Nat):Int) - 1074)=-e3:=by have:=he1k.out;omega
     have he39:-3001<=e3/\e3<=1074:=by omega
     replace cb:=Hd cb;replace cr:=Hd cr;replace hh:=Hd hh;replace hb:=Hd hb;replace hv:=Hd hv;replace hm:=Hd hm;clear hNN hbig;have hpk:=fun w=>pack64_any (m:=m) (k:=(k+1)) (sb:=sb) hm9 (by omega) w;have hRe:R=Cd m (k+1):=hRR;rw [<-hRe,<-hSG,hkk] at hpk;replace hkk:=Hd hkk;have hor2:bits .or .u64 (SG:Int) ((m:Nat):Int)=((SG+m:Nat):Int):=by
       have h1:=As (x:=SG) (y:=m) (by rw [hSG];unfold sgB;split<;>omega) (by omega);rw [hSG,Gr sb (by omega),<-hSG] at h1;rw [hSG] at h1 ⊢;exact h1
     obtain ⟨Z,hZ⟩:∃Z,Z=SG+m:=⟨_,rfl⟩;rw [<-hZ] at hpk hor2;obtain ⟨G,hG⟩:∃G,G=SG+R:=⟨_,rfl⟩;obtain ⟨ER,hER⟩:∃ER,ER=Ay R:=⟨_,rfl⟩;rw [<-hG,<-hER] at hpk;rw [<-hSG,<-hG,<-hER];replace hpk:=Hd hpk;replace hSG:=Hd hSG;replace hZ:=Hd hZ;replace hG:=Hd hG;replace hER:=Hd hER;replace hRe:=Hd hRe;clear hRR hu9 hN f1 o0
     go_enter Tryz.func125,Tryz.ntmps125
     go_wp2_with fail
     refine (c1.out _).mono ?_;rintro e w' ⟨rfl,hww⟩;obtain rfl:=hww.symm;clear hww;go_wp2_with fail
     refine (c2.out _).mono ?_;rintro e w' ⟨rfl,hww⟩;obtain rfl:=hww.symm;clear hww;go_wp2_with fail
     rw [<-hw1e.out];refine hpre.out.mono ?_;rintro e w' ⟨rfl,hww⟩;obtain rfl:=hww.symm;clear hww;go_wp2_with fail
     refine hus.out.mono ?_;rintro e w3 ⟨rfl,hb3⟩;have hb03:=hb2.out.trans (hb3.mono hb2.out.size);replace hb03:=Hd hb03;clear hb3;go_wp2_with fail
     refine (unmin_any _).mono ?_;rintro e w' ⟨rfl,hww⟩;obtain rfl:=hww.symm;clear hww;go_wp2_with fail
     refine (cb.out _).mono ?_;rintro e w' ⟨rfl,hww⟩;obtain rfl:=hww.symm;clear hww;go_wp2_with fail
     refine (cr.out _).mono ?_;rintro e w' ⟨rfl,hww⟩;obtain rfl:=hww.symm;clear hww;go_wp2_with fail
     refine (hpk.out _).mono ?_;rintro e w' ⟨rfl,hww⟩;obtain rfl:=hww.symm;clear hww;go_wp2
     go_ret2
     exact ⟨rfl,hb03.out⟩
   · rw [if_neg hbig] at hNN
     have hbi:decide ((36028797018963966:Int)<=(u:Int))=false:=decide_eq_false (by omega);have cb:=bool2i_any false;obtain ⟨b,hb⟩:∃b,b=u % 2:=⟨_,rfl⟩;have hmd:(u:Int) % 2=(b:Int):=by omega
     have hand:bits .and .u64 (u:Int) 1=(b:Int):=by
       have:=Aw (x:=u) (y:=1) (by omega) (by omega);rw [and_1,<-hb] at this;exact this
     have hor:bits .or .u64 (u:Int) (b:Int)=(u:Int):=by
       have:=As (x:=u) (y:=b) (by omega) (by omega);rw [hb,stick_or,stick_self] at this;rw [hb];exact this
     obtain ⟨m,hm⟩:∃m,m=rndU u:=⟨_,rfl⟩;have hm9:m<9007199254740992:=by rw [hm];unfold rndU;omega
     rw [<-hm] at hNN;have hRR:=hNN;have cr:=fun w=>Cs u m (by omega) hm.symm w;have hkk:((k:Int) - 1074)=-e1:=by have:=he1k.out;omega
     replace cb:=Hd cb;replace cr:=Hd cr;replace hb:=Hd hb;replace hm:=Hd hm;clear hNN hbig;have hpk:=fun w=>pack64_any (m:=m) (k:=k) (sb:=sb) hm9 (by omega) w;have hRe:R=Cd m k:=hRR;rw [<-hRe,<-hSG,hkk] at hpk;replace hkk:=Hd hkk;have hor2:bits .or .u64 (SG:Int) ((m:Nat):Int)=((SG+m:Nat):Int):=by
       have h1:=As (x:=SG) (y:=m) (by rw [hSG];unfold sgB;split<;>omega) (by omega);rw [hSG,Gr sb (by omega),<-hSG] at h1;rw [hSG] at h1 ⊢;exact h1
     obtain ⟨Z,hZ⟩:∃Z,Z=SG+m:=⟨_,rfl⟩;rw [<-hZ] at hpk hor2;obtain ⟨G,hG⟩:∃G,G=SG+R:=⟨_,rfl⟩;obtain ⟨ER,hER⟩:∃ER,ER=Ay R:=⟨_,rfl⟩;rw [<-hG,<-hER] at hpk;rw [<-hSG,<-hG,<-hER];replace hpk:=Hd hpk;replace hSG:=Hd hSG;replace hZ:=Hd hZ;replace hG:=Hd hG;replace hER:=Hd hER;replace hRe:=Hd hRe;clear hRR hu9 hN f1 o0
     go_enter Tryz.func125,Tryz.ntmps125
     go_wp2_with fail
     refine (c1.out _).mono ?_;rintro e w' ⟨rfl,hww⟩;obtain rfl:=hww.symm;clear hww;go_wp2_with fail
     refine (c2.out _).mono ?_;rintro e w' ⟨rfl,hww⟩;obtain rfl:=hww.symm;clear hww;go_wp2_with fail
     rw [<-hw1e.out];refine hpre.out.mono ?_;rintro e w' ⟨rfl,hww⟩;obtain rfl:=hww.symm;clear hww;go_wp2_with fail
     refine hus.out.mono ?_;rintro e w3 ⟨rfl,hb3⟩;have hb03:=hb2.out.trans (hb3.mono hb2.out.size);replace hb03:=Hd hb03;clear hb3;go_wp2_with fail
     refine (unmin_any _).mono ?_;rintro e w' ⟨rfl,hww⟩;obtain rfl:=hww.symm;clear hww;go_wp2_with fail
     refine (cb.out _).mono ?_;rintro e w' ⟨rfl,hww⟩;obtain rfl:=hww.symm;clear hww;go_wp2_with fail
     refine (cr.out _).mono ?_;rintro e w' ⟨rfl,hww⟩;obtain rfl:=hww.symm;clear hww;go_wp2_with fail
     refine (hpk.out _).mono ?_;rintro e w' ⟨rfl,hww⟩;obtain rfl:=hww.symm;clear hww;go_wp2
     go_ret2
     exact ⟨rfl,hb03.out⟩
end Go.Proofs.YteoalcmhdoopnaaGreatDoor
namespace Go.Proofs.YteoalcmhdoopnaaGreatDoor
theorem Cv {p q:Int} (p0:-400<=p) (q0:-400<=q):(∃a:Nat,tT p=10 ^ a * tT q/\p - q=(a:Int))\/∃a:Nat,1<=a/\tT q=10 ^ a * tT p/\q - p=(a:Int):=by
 rcases Int.lt_or_le p q with h | h
 · obtain ⟨a,rfl⟩:∃a:Nat,q=p+a:=⟨(q - p).toNat,by omega⟩
   exact .inr ⟨a,by omega,F8 p0 a,by omega⟩
 · obtain ⟨a,rfl⟩:∃a:Nat,p=q+a:=⟨(p - q).toNat,by omega⟩
   exact .inl ⟨a,F8 q0 a,by omega⟩
theorem short_d0 {r:Nat} (h:0<r) (hr:r<9218868437227405312) (hs:A9 r=false) :
   (fMin r<=fMax r / 10 * 10/\(Ae r).1=fMax r / 10/\(Ae r).2=1 - fP r)\/(¬fMin r<=fMax r / 10 * 10/\fMin r<=(Ae r).1/\(Ae r).1<=fMax r/\(Ae r).2=-fP r):=by
 obtain ⟨n0,n1⟩:=near_in h hr hs
 unfold Ae
 by_cases h1:fMin r<=fMax r / 10 * 10
 · rw [if_pos h1];exact .inl ⟨h1,rfl,rfl⟩
 · rw [if_neg h1]
   by_cases h2:fMin r<fMax r
   · rw [if_pos h2];exact .inr ⟨h1,n0,n1,rfl⟩
   · rw [if_neg h2];exact .inr ⟨h1,Nat.le_refl _,Nat.le_trans n0 n1,rfl⟩
theorem few_no {r s k N d:Nat} {q:Int} (h13:13<=r) (hr:r<9218868437227405312) (hs:A9 r=false) (hl:Least (fMin r) (fMax r) (Ae r).1 s k N) (hq:-400<=q) (hd0:0<d) (hrd:Cp r d q=true):10 ^ (N - 1)<=d:=by
 have h:0<r:=by omega
 have hU:=units_of h13 hr hs;have hps:=Cf h hr;have hin:InS (vT r) (gT r) (r % 2=0) (d * tT q):=(Fx h hs _).2 (D7.1 hrd);have hd:(fMin r<=fMax r / 10 * 10/\(Ae r).1=fMax r / 10)\/(¬fMin r<=fMax r / 10 * 10/\fMin r<=(Ae r).1/\(Ae r).1<=fMax r):=by
   rcases short_d0 h hr hs with ⟨a,b,_⟩ | ⟨a,b,c,_⟩
   · exact .inl ⟨a,b⟩
   · exact .inr ⟨a,b,c⟩
 rcases Cv (p:=-fP r) (q:=q) (by omega) hq with ⟨a,e,_⟩ | ⟨a,ha,e,_⟩
 · exact least_min (a:=a) hU hl hd (.inl ⟨e,Dy _⟩) hin hd0
 · exact least_min (a:=a) hU hl hd (.inr ⟨ha,e⟩) hin hd0
theorem d0_near {r:Nat} (h:0<r) (hr:r<9218868437227405312):2 * vT r<=(2 * rndU (usc r (xM r))+1) * tT (-fP r)/\2 * rndU (usc r (xM r)) * tT (-fP r)<=2 * vT r+tT (-fP r) /\
   (2 * vT r=(2 * rndU (usc r (xM r))+1) * tT (-fP r)\/2 * rndU (usc r (xM r)) * tT (-fP r)=2 * vT r+tT (-fP r)->rndU (usc r (xM r)) % 2=0):=by
 obtain ⟨_,⟨m0,m1,m9⟩,_⟩:=Fa h
 obtain ⟨s0,s1,s2,_,_⟩:=Ba h
 obtain ⟨p0,p1,p2,p3⟩:=Cf h hr
 rw [Fh h hr m0 m1 m9]
 obtain ⟨sc,hsc⟩:∃n:Nat,fSc r=n:=⟨(fSc r).toNat,by omega⟩
 rw [hsc,Int.toNat_natCast]
 have hR:=rel_T (x:=xM r) (μ:=2 * rv r) (k:=rK r) (s:=fS r) (sc:=sc) (p:=fP r) (by omega) (by omega) (by omega) (by
   rw [Cb,xM,show fS r=fS r - 1+1 by omega,Nat.pow_succ,show fS r - 1+1 - 1=fS r - 1 by omega];simp only [Nat.mul_assoc,Nat.mul_left_comm,Nat.mul_comm]) (by rw [<-hsc];rfl)
 exact rnd_near (Nat.mul_pos (Nat.mul_pos (Cj _) (by decide)) (Nat.two_pow_pos sc)) (Dy _) hR
theorem many17 {r:Nat} (h:0<r) (hr:r<9218868437227405312) (hs:A9 r=false):InS (vT r) (gT r) (r % 2=0) ((fixN r 17).1 * tT (fixN r 17).2):=by
 obtain ⟨⟨f1,f2,f3,f4,_,f6⟩,q0,q1⟩:=D6 h hr (n:=17) (by decide) (by decide);have hM:=(A4 r).2.2;have hV:vT r=2 * (rM r * gT r):=by unfold vT gT;rw [Cb];simp only [Nat.mul_assoc]
 have hg:0<gT r:=Nat.mul_pos (Nat.two_pow_pos _) (Nat.pow_pos (by decide));generalize (fixN r 17).1=d at *;generalize tT ((fixN r 17).2 - 1)=tm at *;have ht:=Dy (fixN r 17).2;generalize tT (fixN r 17).2=t at *;clear f6;have e1:(2 * d+1) * t=2 * (d * t)+t:=by rw [Nat.add_mul,Nat.one_mul,Nat.mul_assoc]
 have e2:2 * d * t=2 * (d * t):=Nat.mul_assoc _ _ _;rw [e1] at f3;rw [e2] at f4;have f1' : 10000000000000000<=d:=f1;have h1:10000000000000000 * t<=d * t:=Nat.mul_le_mul_right _ f1';have h2:rM r * gT r<=9007199254740991 * gT r:=Nat.mul_le_mul_right _ (by omega);generalize rM r * gT r=a at *;generalize d * t=x at *;generalize gT r=g at *;generalize vT r=v at *;unfold InS;constructor<;>left<;>omega
theorem least_of {r:Nat} (h13:13<=r) (hr:r<9218868437227405312) (hs:A9 r=false) :
   ∃s k N,Least (fMin r) (fMax r) (Ae r).1 s k N:=by
 have h:0<r:=by omega
 have hU:=units_of h13 hr hs
 have hb:=hU.big
 have hpos:0<(Ae r).1:=by
   rcases short_d0 h hr hs with ⟨a,b,_⟩ | ⟨a,b,c,_⟩
   · rw [b];omega
   · omega
 obtain ⟨s,k,e,l⟩:∃s k:Nat,(Ae r).1=s * 10 ^ k/\s % 10≠0:=by
   generalize (Ae r).1=d at hpos;clear hb hU;induction d using Nat.strongRecOn with
   | _ d ih=>
     by_cases h9:d % 10=0
     · obtain ⟨s,k,e,l⟩:=ih (d / 10) (by omega) (by omega)
       exact ⟨s,k+1,by rw [Nat.pow_succ,<-Nat.mul_assoc,<-e];omega,l⟩
     · exact ⟨d,0,by simp,h9⟩
 obtain ⟨N,hN⟩:∃N:Nat,10 ^ N<=s/\s<10 ^ (N+1):=by
   have hs0:0<s:=by omega
   clear e l;induction s using Nat.strongRecOn with
   | _ s ih=>
     by_cases h9:s<10
     · exact ⟨0,by simp;omega,by simpa using h9⟩
     · obtain ⟨N,a,b⟩:=ih (s / 10) (by omega) (by omega)
       refine ⟨N+1,?_,?_⟩
       · rw [Nat.pow_succ];omega
       · rw [Nat.pow_succ];omega
 exact ⟨s,k,N+1,e,l,hN.1,hN.2,by omega⟩
theorem tT_pred {q:Int} (h:-399<=q):tT q=10 * tT (q - 1):=by
 have:=tT_succ (q:=q - 1) (by omega);rwa [show q - 1+1=q by omega] at this
theorem ten_gap {a x y:Nat} (ha:1<=a) (hy:0<y) (e:x=10 ^ a * y):y<x:=by
 have h10:1<10 ^ a:=Nat.one_lt_pow (by omega) (by decide);rw [e];exact (Nat.lt_mul_iff_one_lt_left hy).2 h10
theorem ten_down {b x y z:Nat} (e:x=10 ^ (b+1) * y) (hx:x=10 * z):z=10 ^ b * y:=by
 rw [hx,Nat.pow_succ,Nat.mul_comm (10 ^ b) 10,Nat.mul_assoc] at e;exact Nat.eq_of_mul_eq_mul_left (by decide) e
theorem hit_core {V g F0 F1 s k N:Nat} {ev:Prop} {P:Int} {S X:Nat × Int} (hU:Units V g (tT P) F0 F1 ev) (hl:Least F0 F1 S.1 s k N) (hg:0<g) (hP:-350<=P)
   (hf:Fix N X.1 V (tT X.2) (tT (X.2 - 1))) (q0:-380<=X.2) (hin0:InS V g ev (S.1 * tT S.2))
   (hd:(F0<=F1 / 10 * 10/\S.1=F1 / 10/\S.2=P+1)\/(¬F0<=F1 / 10 * 10/\F0<=S.1/\S.1<=F1/\S.2=P/\(F0=F1\/(2 * V<=(2 * S.1+1) * tT P/\2 * S.1 * tT P<=2 * V+tT P/\(2 * V=(2 * S.1+1) * tT P\/2 * S.1 * tT P=2 * V+tT P->S.1 % 2=0))))) :
   InS V g ev (X.1 * tT X.2)/\X.1=s/\X.2=S.2+k:=by
 obtain ⟨S1,S2⟩:=S
 obtain ⟨X1,X2⟩:=X
 dsimp only at *
 have hp0:-400<=S2:=by rcases hd with ⟨_,_,c⟩ | ⟨_,_,_,c,_⟩<;>omega
 have hin1:InS V g ev (s * tT (S2+k)):=by
   rw [F8 hp0 k,<-Nat.mul_assoc,<-hl.eq];exact hin0
 have htm:tT X2=10 * tT (X2 - 1):=tT_pred (by omega)
 have hin:InS V g ev (X1 * tT X2):=by
   rcases Cv (p:=S2+k) (q:=X2) (by omega) (by omega) with ⟨a,e,_⟩ | ⟨a,ha,e,_⟩
   · exact near_inS (a:=a) hg hl.pos hf hl.high hin1 htm (.inl e)
   · obtain ⟨b,rfl⟩:∃b,a=b+1:=⟨a - 1,by omega⟩
     exact near_inS (a:=b) hg hl.pos hf hl.high hin1 htm (.inr (ten_down e htm))
 have hd2:(F0<=F1 / 10 * 10/\S1=F1 / 10)\/(¬F0<=F1 / 10 * 10/\F0<=S1/\S1<=F1/\(F0=F1\/(2 * V<=(2 * S1+1) * tT P/\2 * S1 * tT P<=2 * V+tT P/\(2 * V=(2 * S1+1) * tT P\/2 * S1 * tT P=2 * V+tT P->S1 % 2=0)))):=by
   rcases hd with ⟨a,b,_⟩ | ⟨a,b,c,_,d⟩
   · exact .inl ⟨a,b⟩
   · exact .inr ⟨a,b,c,d⟩
 refine ⟨hin,?_⟩
 have hq0:=Dy X2
 rcases Cv (p:=P) (q:=X2) (by omega) (by omega) with ⟨a,e,ea⟩ | ⟨a,ha,e,ea⟩
 · obtain ⟨e1,h2⟩:=least_hit (a:=a) hU hl hf hq0 hin hd2 (.inl e)
   refine ⟨e1,?_⟩;rcases h2 with ⟨_,ha,e2,_⟩ | ⟨hA,_,ha,hk⟩
   · exfalso
     exact Nat.lt_asymm (ten_gap ha (Dy P) e2) (ten_gap ha hq0 e)
   · rcases hd with ⟨hA', _⟩ | ⟨_,_,_,c,_⟩
     · exact absurd hA' hA
     · omega
 · obtain ⟨e1,h2⟩:=least_hit (a:=a) hU hl hf hq0 hin hd2 (.inr ⟨ha,e⟩)
   refine ⟨e1,?_⟩;rcases h2 with ⟨hA,_,_,hk⟩ | ⟨_,_,h0,_⟩
   · rcases hd with ⟨_,_,c⟩ | ⟨hA', _⟩
     · omega
     · exact absurd hA hA'
   · omega
theorem short_way {r:Nat} (h:0<r) (hr:r<9218868437227405312) (hs:A9 r=false) :
   (fMin r<=fMax r / 10 * 10/\(Ae r).1=fMax r / 10/\(Ae r).2=-fP r+1)\/(¬fMin r<=fMax r / 10 * 10/\fMin r<=(Ae r).1/\(Ae r).1<=fMax r/\(Ae r).2=-fP r/\(fMin r=fMax r\/(2 * vT r<=(2 * (Ae r).1+1) * tT (-fP r)/\2 * (Ae r).1 * tT (-fP r)<=2 * vT r+tT (-fP r) /\
     (2 * vT r=(2 * (Ae r).1+1) * tT (-fP r)\/2 * (Ae r).1 * tT (-fP r)=2 * vT r+tT (-fP r)->(Ae r).1 % 2=0)))):=by
 obtain ⟨n0,n1⟩:=near_in h hr hs
 have hn:=d0_near h hr
 unfold Ae
 by_cases h1:fMin r<=fMax r / 10 * 10
 · rw [if_pos h1];exact .inl ⟨h1,rfl,by dsimp only;generalize fP r=p;omega⟩
 · rw [if_neg h1]
   by_cases h2:fMin r<fMax r
   · rw [if_pos h2];exact .inr ⟨h1,n0,n1,rfl,.inr hn⟩
   · rw [if_neg h2];exact .inr ⟨h1,Nat.le_refl _,Nat.le_trans n0 n1,rfl,.inl (Nat.le_antisymm (Nat.le_trans n0 n1) (Nat.not_lt.1 h2))⟩
theorem hit {r s k N:Nat} (h13:13<=r) (hr:r<9218868437227405312) (hs:A9 r=false) (hl:Least (fMin r) (fMax r) (Ae r).1 s k N) (h17:N<=17) :
   Cp r (fixN r N).1 (fixN r N).2=true/\(fixN r N).1=s/\(fixN r N).2=(Ae r).2+k:=by
 have h:0<r:=Nat.lt_of_lt_of_le (by decide) h13
 have hP:-400<=-fP r+1/\-400<=-fP r/\-350<=-fP r:=by
   have hps:=Cf h hr;generalize fP r=p at *;omega
 have hw:=short_way h hr hs
 have hp0:-400<=(Ae r).2:=by
   rcases hw with ⟨_,_,c⟩ | ⟨_,_,_,c,_⟩
   · rw [c];exact hP.1
   · rw [c];exact hP.2.1
 obtain ⟨a,b⟩:=hit_core (units_of h13 hr hs) hl (Nat.mul_pos (Nat.two_pow_pos _) (Nat.pow_pos (by decide))) hP.2.2 (D6 h hr hl.pos h17).1 (D6 h hr hl.pos h17).2.1
   ((Fx h hs _).2 ((dec_T hp0).1 (short_ok h hr))) hw
 exact ⟨D7.2 ((Fx h hs _).1 a),b⟩
theorem Es {n d:Nat} {q:Int} {up:Bool} (hn:1<=n) (h0:10 ^ (n - 1)<=d) (h1:d<10 ^ n) :
   10 ^ (n - 1)<=(Af n d q up).1/\(Af n d q up).1<10 ^ n/\q - 1<=(Af n d q up).2/\(Af n d q up).2<=q+1:=by
 have h2:(10:Nat) ^ n=10 * 10 ^ (n - 1):=by
   obtain ⟨k,rfl⟩:∃k,n=k+1:=⟨n - 1,by omega⟩;rw [Nat.pow_succ,Nat.mul_comm];simp
 have h3:0<(10:Nat) ^ (n - 1):=Nat.pow_pos (by decide)
 unfold Af
 rw [h2] at h1 ⊢
 generalize (10:Nat) ^ (n - 1)=P at *
 split<;>split<;>simp only []<;>omega
theorem seek_least {r s k N:Nat} (h13:13<=r) (hr:r<9218868437227405312) (hs:A9 r=false) (hl:Least (fMin r) (fMax r) (Ae r).1 s k N) (h17:N<=17) :
   ∀fuel n,1<=n->n<=N->N<n+fuel->A6 r fuel n=(N,fixN r N)
 | 0,n,_,h1,h2=>by omega
 | fuel+1,n,h0,h1,h2=>by
   rcases Nat.eq_or_lt_of_le h1 with e | hlt
   · subst e
     unfold A6;rw [if_pos (hit h13 hr hs hl h17).1]
   · obtain ⟨hf,q0,q1⟩:=D6 (by omega) hr h0 (show n<=17 by omega)
     have hP:(10:Nat) ^ n<=10 ^ (N - 1):=Nat.pow_le_pow_right (by decide) (by omega);have hPp:0<(10:Nat) ^ (n - 1):=Nat.pow_pos (by decide);have no:∀{d:Nat} {q:Int},10 ^ (n - 1)<=d->d<10 ^ n->-400<=q->¬Cp r d q=true:=fun a b c hrd=>by
       have:=few_no h13 hr hs hl c (by omega) hrd;omega
     obtain ⟨b0,b1,b2,b3⟩:=Es (q:=(fixN r n).2) (up:=decide ((fixN r n).1 * tT (fixN r n).2<vT r)) h0 hf.low hf.high;unfold A6;rw [if_neg (no hf.low hf.high (by omega)),if_neg (no b0 b1 (by omega))];exact seek_least h13 hr hs hl h17 fuel (n+1) (by omega) hlt (by omega)
theorem ends_all {r:Nat} (h:0<r) (hr:r<9218868437227405312):endsB r=true:=by
 rcases Nat.lt_or_ge r 1000 with h0 | h0
 · have:=Bq ends_few r h0
   rw [decide_eq_false (by omega),Bool.false_or] at this;exact this
 cases hs:A9 r
 · obtain ⟨s,k,N,hl⟩:=least_of (by omega) hr hs
   have h17:N<=17:=by
     have hm:=many17 h hr hs;obtain ⟨hf,q0,q1⟩:=D6 h hr (n:=17) (by decide) (by decide);have:=few_no (d:=(fixN r 17).1) (q:=(fixN r 17).2) (by omega) hr hs hl (by omega) (by have:=hf.low;omega) (D7.2 ((Fx h hs _).1 hm));have h2:(10:Nat) ^ (N - 1)<10 ^ 17:=Nat.lt_of_le_of_lt this hf.high;have:=(Nat.pow_lt_pow_iff_right (a:=10) (by decide)).1 h2;omega
   have e:=seek_least (by omega) hr hs hl h17 17 1 (by decide) hl.pos (by omega);obtain ⟨_,e1,e2⟩:=hit (by omega) hr hs hl h17;unfold endsB;rw [e];simp only [Bool.and_eq_true,decide_eq_true_eq];refine ⟨⟨⟨⟨⟨?_,?_⟩,?_⟩,?_⟩,?_⟩,?_⟩
   · rw [e1,e2,show ((Ae r).2+(k:Int) - (Ae r).2).toNat=k by omega];exact hl.eq
   · rw [e2];omega
   · rw [e1];exact hl.last
   · rw [e1];exact hl.low
   · rw [e1];exact hl.high
   · exact hl.pos
 · simp only [A9,Bool.and_eq_true,decide_eq_true_eq] at hs
   have hsp:=A4 r;have hk:=E6 hr;have:=Bq ends_skew (rK r) hk;rw [decide_eq_false (by omega),Bool.false_or] at this;rw [hsp.1,hs.1,show rK r * 4503599627370496+4503599627370496=(rK r+1) * 4503599627370496 by omega];exact this
end Go.Proofs.YteoalcmhdoopnaaGreatDoor
