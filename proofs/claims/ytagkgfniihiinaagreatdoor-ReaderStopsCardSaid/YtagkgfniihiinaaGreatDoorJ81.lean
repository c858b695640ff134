/- internal/strconv: decimal.floatBits. -/
import Derived.Test.YtagkgfniihiinaaGreatDoorJ84
import Derived.Test.YtagkgfniihiinaaGreatDoorJump2
import Derived.Test.YtagkgfniihiinaaGreatDoorJ92
set_option linter.all false
set_option maxHeartbeats 6400000
set_option maxRecDepth 100000
namespace Go.Proofs.YtagkgfniihiinaaGreatDoor
open Go.RowKit
structure Outs (M E1 B:Nat):Prop where
 a1:bits .and .u64 (M:Int) 4503599627370495=((M % 4503599627370496:Nat):Int)
 a2:bits .and .i64 (E1:Int) 2047=(E1:Int)
 a4:bits .or .u64 ((M % 4503599627370496:Nat):Int) ((E1 * 4503599627370496:Nat):Int)=(B:Int)
 a5:bits .or .u64 (B:Int) 9223372036854775808=((B+9223372036854775808:Nat):Int)
 e:E1<=2047
theorem outs_of {M E1:Nat} (hM:M<18446744073709551616) (hE:E1<=2047):Outs M E1 (M % 4503599627370496+E1 * 4503599627370496):=by
 refine ⟨?_,?_,?_,?_,hE⟩
 ·have:=Cb (x:=M) (y:=2 ^ 52 - 1) hM (by decide)
  rw [Nat.and_two_pow_sub_one_eq_mod] at this;exact this
 ·have a:∀n:Fin 2048,bits .and .i64 (n.val:Int) 2047=(n.val:Int):=by decide +kernel
  exact a ⟨E1,by omega⟩
 ·have hm:M % 4503599627370496<4503599627370496:=Nat.mod_lt _ (by decide)
  have h1:=Bj (x:=M % 4503599627370496) (y:=E1 * 4503599627370496) (by omega) (by omega);have h2:=or_place false (c:=M % 4503599627370496) (j:=E1) hm (by omega);simp only [sgB,Bool.false_eq_true,if_false,Nat.zero_add] at h2;rw [h2] at h1;rw [h1,Nat.add_comm]
 ·have hm:M % 4503599627370496<4503599627370496:=Nat.mod_lt _ (by decide)
  generalize hB:M % 4503599627370496+E1 * 4503599627370496=B;have b:B<9223372036854775808:=by omega
  have h1:=Bj (x:=B) (y:=9223372036854775808) (by omega) (by omega);have h2:=sgB_or true b;simp only [sgB,if_true] at h2;rw [Nat.or_comm,h2] at h1;rw [Nat.add_comm B];exact h1
theorem fbM_is {d:Dec} (hne:d.L≠[]) (h1:d.dp<=310) (h2:-330<=d.dp) {a b:Dec × Int} {e e2:Int} {c:Dec} {m:Nat} (ha:a=A2 (mR d) d 0) (hb:b=B7 (mL a.1) a.1 a.2) (he:e=b.2 - 1)
  (hc:c=if e < -1022 then shR 2000 (-1022 - e).toNat b.1 else b.1) (he2:e2=if e < -1022 then -1022 else e) (hm:m=rndI (lsD 53 c)) :
  fbM d=if 1024<=e2 then none else if m=9007199254740992 then (if 1024<=e2+1 then none else some (4503599627370496,e2+1)) else some (m,if m / 4503599627370496 % 2=0 then -1023 else e2):=by
 unfold fbM;rw [if_neg hne,if_neg (by omega),if_neg (by omega)];dsimp only;rw [<-ha,<-hb,<-he,<-hc,<-he2,<-hm]
theorem Dm.drewN {w:World} {b:Nat} {d:Dec} {ng:Bool} (h:Dm w b d ng) (k:Nat):Dm (w.drewN k) b d ng:=by
 obtain ⟨f,h1,h2⟩:=h;exact ⟨f,h1.drewN k,h2⟩
theorem Dn.drewN {w0 w:World} {b:Nat} (h:Dn w0 w b) (k:Nat):Dn w0 (w.drewN k) b:=h.fr ((Fr.refl _ _).drewN k)
def cellN (w:World) (a:Addr):Int:=match w.cell? a with | some (.int _ v)=>v | _=>0
def muR (w:World) (b:Nat):Nat:=if 0<cellN w ⟨b,801,none⟩ then 2 * (cellN w ⟨b,801,none⟩).toNat+(if 8<=(cellN w ⟨b,0,none⟩).toNat - 48 then 1 else 0) else 0
def muL (w:World) (b:Nat):Nat:=if cellN w ⟨b,801,none⟩<=0 then 10 * (-cellN w ⟨b,801,none⟩).toNat+(10 - ((cellN w ⟨b,0,none⟩).toNat - 48)) else 0
theorem Dm.mu {w:World} {b:Nat} {d:Dec} {ng:Bool} (h:Dm w b d ng) (hg:d.Good):muR w b=mR d/\muL w b=mL d/\w.cell? ⟨b,0,none⟩=some (.int .u8 ((D7 d+48:Nat):Int))/\D7 d<=9:=by
 obtain ⟨f,hD,g⟩:=h;obtain ⟨c,l,e,hc⟩:=hg.head;have a:=hg.dig c (by rw [e];exact List.mem_cons_self ..);have hc9:48<=c.toNat/\c.toNat<=57:=by unfold isD at a;simpa using a
 have h0:f 0=c:=by
  have h1:=row_at g (i:=0) (by rw [e];simp);rw [h1];simp [e]
 have hh:D7 d=c.toNat - 48:=by unfold D7;rw [e];rfl
 have c1:cellN w ⟨b,801,none⟩=d.dp:=by unfold cellN;rw [hD.pt]
 have hz:=hD.dig 0 (by decide);rw [h0] at hz;have c2:(cellN w ⟨b,0,none⟩).toNat=c.toNat:=by unfold cellN;rw [hz];rfl
 refine ⟨?_,?_,?_,by omega⟩
 ·unfold muR mR;rw [c1,c2,hh]
 ·unfold muL mL;rw [c1,c2,hh]
 ·rw [hz,hh,show c.toNat - 48+48=c.toNat by omega]
theorem fb_any {w0 w:World} {b:Nat} {d:Dec} {ng:Bool} (hw:Dn w0 w b) (h:Dm w b d ng) (hg:d.Good) (hp0:-330<=d.dp) (hp1:d.dp<=310) :
  Calls Tryz.prog 209 #[.pointer (some ⟨b,0,none⟩),.pointer (some ⟨7,0,none⟩)] w fun e w' => e=.returned (.tuple #[.int .u64 ((fbR d+sgB ng:Nat):Int),.bool (decide (fbR d=9218868437227405312))])/\Fr (fun k=>k=b) w w' := by
 obtain ⟨m1,ga,ca,cb,cc,cd,m2,gb,bl,bs,bt,bu⟩:=fb_bounds hg hp1 hp0;obtain ⟨a,ha⟩:∃a,a=A2 (mR d) d 0:=⟨_,rfl⟩;rw [<-ha] at ga ca cb cc cd m2 gb bl bs bt bu;obtain ⟨bb,hbb⟩:∃bb,bb=B7 (mL a.1) a.1 a.2:=⟨_,rfl⟩;rw [<-hbb] at gb bl bs bt bu;have a9:d.L≠[]:=by obtain ⟨c,l,e,_⟩:=hg.head;rw [e];simp
 have h0:=h;obtain ⟨f,hD,bv⟩:=h0;have c0:=hD.nd;have cp:=hD.pt;have ba:((d.L.length:Int) == 0)=false:=by rw [beq_eq_false_iff_ne];have:=hg.val.2;omega
 obtain ⟨nd,hnd⟩:∃nd,nd=d.L.length:=⟨_,rfl⟩;rw [<-hnd] at c0 ba;replace hnd:=Hd hnd;replace hw:=Hd hw;replace h:=Hd h;replace hg:=Hd hg;replace ha:=Hd ha;replace hbb:=Hd hbb;replace ga:=Hd ga;replace gb:=Hd gb;replace a9:=Hd a9;clear hD bv
 go_enter Tryz.func209,Tryz.ntmps209
 go_wp2_with fail
 refine F9 rfl rfl ?_
 go_upto_block 0 with fail
 go_cut [6] from 8 to 60 (fun s6 wx=>s6=.int .i64 a.2/\Dm wx b a.1 ng/\Fr (fun k=>k=b) w wx)
 case first=>
  go_wp2_with fail
  go_loopw [6,8] (fun s6 _ wr=>∃(d' : Dec) (e:Int) (fu:Nat),s6=.int .i64 e/\d'.Good/\Dm wr b d' ng/\Fr (fun k=>k=b) w wr/\a=A2 fu d' e/\mR d' <= fu/\0<=e/\e<=27 * ((mR d:Int) - mR d')/\-330<=d'.dp/\d'.dp<=310) (fun _ _ wr=>muR wr b)
  case atStart=>exact ⟨d,0,mR d,rfl,hg.out,h.out,Fr.refl _ _,ha.out,Nat.le_refl _,Int.le_refl _,by omega,hp0,hp1⟩
  case round=>
   obtain ⟨d', e,fu,rfl,u, s, hF,hS,ce,cf,cg,bw,au⟩:=hrel;obtain ⟨ai,_,_,_⟩:=s.mu u;have bc:wr.cell? ⟨b,801,none⟩=some (.int .i64 d'.dp):=by obtain ⟨f,hx,_⟩:=s; exact hx.pt
   by_cases hpos:0<d'.dp
   ·obtain ⟨n,hn⟩:∃n:Nat,d'.dp=n:=⟨d'.dp.toNat,by omega⟩
    have bd:0<mR d' := by unfold mR;rw [if_pos hpos];omega
    rcases fu with _ | fu
    ·omega
    rw [A2,if_pos hpos] at hS;obtain ⟨s1,s2,s3⟩:=mR_step u hpos;rw [hn,Int.toNat_natCast] at hS s1 s2 s3;obtain ⟨p1,p2,_,_⟩:=pt_spec n;obtain ⟨_,r2,_⟩:=rs_dp u (k:=pt n) p1 (by omega);have t1:mR (rsD (pt n) d')<=fu:=by omega
    have t2:0<=e+((pt n:Nat):Int):=by omega
    have t3:e+((pt n:Nat):Int)<=27 * ((mR d:Int) - mR (rsD (pt n) d')):=by omega
    have t4:-330<=(rsD (pt n) d').dp:=by omega
    have t5:(rsD (pt n) d').dp<=310:=by omega
    replace t1:=Hd t1;replace t2:=Hd t2;replace t3:=Hd t3;replace t4:=Hd t4;replace t5:=Hd t5;have p:∀q,Calls Tryz.prog 147 #[.pointer (some ⟨b,0,none⟩),.int .i64 (-(pt n:Int))] (wr.drewN q) fun x w' => x=.returned (.tuple #[])/\Dm w' b (rsD (pt n) d') ng/\Fr (fun k=>k=b) (wr.drewN q) w' := fun q=>
     shiftR_any (f:=0) (s.drewN q) u p1 (by omega) (by omega) (by omega) (by omega) (by omega)
    have r:=((hw.out.fr hF).at).pts;obtain ⟨pb,pc,q1,q2⟩:=r;rw [hn] at bc;have hn0i:(0:Int)<(n:Int):=by omega
    have aa:∀q,Fr (fun k=>k=b) w (wr.drewN q):=fun q=>hF.drewN q;have i:∀w', Dm w' b (rsD (pt n) d') ng->muR w' b<muR wr b:=fun w' h' => by rw [(h'.mu s1).1,ai];exact s2
    replace i:=Hd i;replace aa:=Hd aa;replace p:=Hd p;replace s := Hd s;replace hF:=Hd hF;replace u := Hd u;replace hS:=Hd hS;replace s1:=Hd s1;replace ai:=Hd ai;clear c0 cp ba;by_cases h9:9<=n
    ·have be:(9:Int)<=(n:Int):=by omega
     have ap:pt n=27:=pt_big h9;rw [ap] at p1 p2 hS s1 s2 s3 p i r2 t1 t2 t3 t4 t5;clear s2 s3 r2;replace ap:=Hd ap;clear q2;go_upto_region 13 with fail
     go_quiet (fail)
     go_wp2_with fail
     refine (p.out _).mono ?_;rintro x w2 ⟨rfl,h2,h3⟩;have t:=Hd ((aa.out _).trans h3);replace h2:=Hd h2;clear h3;go_wp2_with fail
     go_round
     case rel=>exact ⟨rsD (27) d', e+(27:Nat),fu,by simp,s1.out,h2.out,t.out,hS.out,t1.out,t2.out,t3.out,t4.out,t5.out⟩
     case measure=>exact i.out _ h2.out
    ·have be:¬(9:Int)<=(n:Int):=by omega
     have bm:(n:Int)<9:=by omega
     have q3:=q2 n (by omega);obtain ⟨pn,hpn⟩:∃pn,pn=pt n:=⟨_,rfl⟩;rw [<-hpn] at p1 p2 hS s1 s2 s3 p i r2 q3 t1 t2 t3 t4 t5;clear s2 s3 r2;replace hpn:=Hd hpn;clear q2;go_upto_region 13 with fail
     go_quiet (fail)
     go_upto_region 15 with fail
     go_quiet (fail)
     go_wp2_with fail
     refine (p.out _).mono ?_;rintro x w2 ⟨rfl,h2,h3⟩;have t:=Hd ((aa.out _).trans h3);replace h2:=Hd h2;clear h3;go_wp2_with fail
     go_round
     case rel=>exact ⟨rsD (pn) d', e+(pn:Nat),fu,by simp,s1.out,h2.out,t.out,hS.out,t1.out,t2.out,t3.out,t4.out,t5.out⟩
     case measure=>exact i.out _ h2.out
   ·have hposi:¬(0:Int)<d'.dp:=hpos
    have ah:a=(d', e):=by rw [hS];exact scaleR_out hpos
    replace hS:=Hd hS;replace ah:=Hd ah;replace s := Hd s;replace hF:=Hd hF;replace u := Hd u;clear ai;go_wp2_with fail
    go_meet
    exact ⟨by rw [ah.out],by rw [ah.out];exact s.out,hF.out⟩
 case rest=>
  obtain ⟨rfl,a6,a7⟩:=hcut
  rename World=>wy
  replace a6:=Hd a6;replace a7:=Hd a7;clear c0 cp ba
  go_upto_block 2 with fail
  go_cut [6] from 9 to 103 (fun s6 wx=>s6=.int .i64 bb.2/\Dm wx b bb.1 ng/\Fr (fun k=>k=b) w wx)
  case first=>
   go_wp2_with fail
   go_loopw [6,9] (fun s6 _ wr=>∃(d' : Dec) (e:Int) (fu:Nat),s6=.int .i64 e/\d'.Good/\Dm wr b d' ng/\Fr (fun k=>k=b) w wr/\bb=B7 fu d' e/\mL d' <= fu/\e<=16767/\-89370+27 * (mL d' : Int)<=e/\-330<=d'.dp/\d'.dp<=0) (fun _ _ wr=>muL wr b)
   case atStart=>exact ⟨a.1,a.2,mL a.1,rfl,ga.out,a6.out,a7.out,hbb.out,Nat.le_refl _,by omega,by omega,by omega,by omega⟩
   case round=>
    obtain ⟨d', e,fu,rfl,u, s, hF,hS,ce,cf,cg,bw,au⟩:=hrel;obtain ⟨_,ai,bx,ch⟩:=s.mu u;have bc:wr.cell? ⟨b,801,none⟩=some (.int .i64 d'.dp):=by obtain ⟨f,hx,_⟩:=s; exact hx.pt
    obtain ⟨z,hz⟩:∃z,z=d'.dp:=⟨_,rfl⟩;obtain ⟨hv,hhv⟩:∃hv,hv=D7 d' := ⟨_,rfl⟩;rw [<-hz] at bc bw au;rw [<-hhv] at bx ch;have ax : ((hv+48:Nat):Int)=(hv:Int)+48:=by omega
    rw [ax] at bx;by_cases hlow:lowQ d'
    ·obtain ⟨n,hn⟩:∃n:Nat,n=(-d'.dp).toNat:=⟨_,rfl⟩
     have b0:-z=(n:Int):=by rw [hz,hn];omega
     have bd:0<mL d' := by
      unfold mL;rw [if_pos (by omega)];rcases hlow with h9 | ⟨_,h9⟩<;>omega
     rcases fu with _ | fu
     ·omega
     rw [B7,if_pos hlow] at hS;obtain ⟨s1,s2,s3,s4⟩:=mL_step u hlow;rw [<-hn] at hS s1 s2 s3 s4;obtain ⟨p1,p2,_,_⟩:=pt_spec n;have t1:mL (lsD (pt n) d')<=fu:=by omega
     have t2:e - ((pt n:Nat):Int)<=16767:=by omega
     have t3:-89370+27 * (mL (lsD (pt n) d'):Int)<=e - ((pt n:Nat):Int):=by omega
     have t4:-330<=(lsD (pt n) d').dp:=by omega
     have t5:(lsD (pt n) d').dp<=0:=by omega
     replace t1:=Hd t1;replace t2:=Hd t2;replace t3:=Hd t3;replace t4:=Hd t4;replace t5:=Hd t5;have p:∀q,Calls Tryz.prog 147 #[.pointer (some ⟨b,0,none⟩),.int .i64 (pt n:Int)] (wr.drewN q) fun x w' => x=.returned (.tuple #[])/\Dm w' b (lsD (pt n) d') ng/\Fr (fun k=>k=b) (wr.drewN q) w' := fun q=>
      shiftL_any ((hw.out.fr hF).drewN q) (s.drewN q) u p1 (by omega) (by omega) (by omega)
     have r:=((hw.out.fr hF).at).pts;obtain ⟨pb,pc,q1,q2⟩:=r;have aa:∀q,Fr (fun k=>k=b) w (wr.drewN q):=fun q=>hF.drewN q;have i:∀w', Dm w' b (lsD (pt n) d') ng->muL w' b<muL wr b:=fun w' h' => by rw [(h'.mu s1).2.1,ai];exact s2
     have b1:z<0\/(z=0/\hv<5):=by
      rcases hlow with h9 | ⟨h9,h8⟩
      ·left;omega
      ·right;omega
     rw [<-hz] at s4;replace i:=Hd i;replace aa:=Hd aa;replace p:=Hd p;replace s := Hd s;replace hF:=Hd hF;replace u := Hd u;replace hS:=Hd hS;replace s1:=Hd s1;replace ai:=Hd ai;replace hn:=Hd hn;replace hz:=Hd hz;replace hhv:=Hd hhv;clear hlow ax;rcases b1 with hzn0 | ⟨bf,hh5⟩
     ·by_cases h9:9<=n
      ·have be:(9:Int)<=(n:Int):=by omega
       have ap:pt n=27:=pt_big h9;rw [ap] at p1 p2 hS s1 p i t1 t2 t3 t4 t5;clear s2 s3 s4;replace ap:=Hd ap;clear q2;go_upto_region 20 with fail
       go_quiet (fail)
       go_wp2_with fail
       refine (p.out _).mono ?_;rintro x w2 ⟨rfl,h2,h3⟩;have t:=Hd ((aa.out _).trans h3);replace h2:=Hd h2;clear h3;go_wp2_with fail
       go_round
       case rel=>exact ⟨lsD (27) d', e - (27:Nat),fu,by simp,s1.out,h2.out,t.out,hS.out,t1.out,t2.out,t3.out,t4.out,t5.out⟩
       case measure=>exact i.out _ h2.out
      ·have be:¬(9:Int)<=(n:Int):=by omega
       have bm:(n:Int)<9:=by omega
       have q3:=q2 n (by omega);obtain ⟨pn,hpn⟩:∃pn,pn=pt n:=⟨_,rfl⟩;rw [<-hpn] at p1 p2 hS s1 p i q3 t1 t2 t3 t4 t5;clear s2 s3 s4;replace hpn:=Hd hpn;clear q2;go_upto_region 20 with fail
       go_quiet (fail)
       go_upto_region 22 with fail
       go_quiet (fail)
       go_wp2_with fail
       refine (p.out _).mono ?_;rintro x w2 ⟨rfl,h2,h3⟩;have t:=Hd ((aa.out _).trans h3);replace h2:=Hd h2;clear h3;go_wp2_with fail
       go_round
       case rel=>exact ⟨lsD (pn) d', e - (pn:Nat),fu,by simp,s1.out,h2.out,t.out,hS.out,t1.out,t2.out,t3.out,t4.out,t5.out⟩
       case measure=>exact i.out _ h2.out
     ·subst bf
      have bn:n=0:=by omega
      subst bn;have bo:(hv:Int)+48<53:=by omega
      have q3:=q2 0 (by omega);have b2 : wr.cell? pb=some (.int .i64 (pt 0:Int)):=q3;obtain ⟨pn,hpn⟩:∃pn,pn=pt 0:=⟨_,rfl⟩;rw [<-hpn] at p1 p2 hS s1 p i q3 b2 t1 t2 t3 t4 t5;clear s2 s3 s4;replace hpn:=Hd hpn;clear q2 b0;go_upto_region 20 with fail
      go_quiet (fail)
      go_upto_region 22 with fail
      go_quiet (fail)
      go_wp2_with fail
      refine (p.out _).mono ?_;rintro x w2 ⟨rfl,h2,h3⟩;have t:=Hd ((aa.out _).trans h3);replace h2:=Hd h2;clear h3;go_wp2_with fail
      go_round
      case rel=>exact ⟨lsD (pn) d', e - (pn:Nat),fu,by simp,s1.out,h2.out,t.out,hS.out,t1.out,t2.out,t3.out,t4.out,t5.out⟩
      case measure=>exact i.out _ h2.out
    ·have ah:bb=(d', e):=by rw [hS];exact scaleL_out hlow
     have bf:z=0:=by
      rcases Int.lt_or_eq_of_le au with h9 | h9
      ·exact absurd (.inl (by omega)) hlow
      ·exact h9
     have bo:¬(hv:Int)+48<53:=by
      intro h9;exact hlow (.inr ⟨by omega,by omega⟩)
     subst bf;replace hS:=Hd hS;replace ah:=Hd ah;replace s := Hd s;replace hF:=Hd hF;replace u := Hd u;replace hlow:=Hd hlow;replace hz:=Hd hz;replace hhv:=Hd hhv;clear ai ax;go_wp2_with fail
     go_meet
     exact ⟨by rw [ah.out],by rw [ah.out];exact s.out,hF.out⟩
  case rest=>
   obtain ⟨rfl,a8,t⟩:=hcut
   rename World=>wz
   have o1:bits .and .u64 0 4503599627370495=0:=by decide +kernel
   have o2:bits .and .i64 2047 2047=2047:=by decide +kernel
   have o3:bits .or .u64 0 9218868437227405312=9218868437227405312:=by decide +kernel
   have o4:bits .or .u64 9218868437227405312 9223372036854775808=18442240474082181120:=by decide +kernel
   obtain ⟨e,he⟩:∃e,e=bb.2 - 1:=⟨_,rfl⟩;obtain ⟨c,hc⟩:∃c,c=if e < -1022 then shR 2000 (-1022 - e).toNat bb.1 else bb.1:=⟨_,rfl⟩;obtain ⟨e2,he2⟩:∃e2,e2=if e < -1022 then -1022 else e:=⟨_,rfl⟩;obtain ⟨m,hm⟩:∃m,m=rndI (lsD 53 c):=⟨_,rfl⟩;have bp:=Hd (fbM_is a9.out hp1 hp0 ha.out hbb.out he hc he2 hm);have aj:c.Good/\c.dp<=0/\-50000<=c.dp:=by
    rw [hc];split
    ·obtain ⟨x1,x2,x3⟩:=shR_good 2000 (-1022 - e).toNat bb.1 gb.out (by omega) (by omega)
     exact ⟨x1,by omega,by omega⟩
    ·exact ⟨gb.out,bl,by omega⟩
   have he2b:-1022<=e2/\e2<=16767:=by rw [he2];split<;>omega
   have heb:-89371<=e/\e<=16766:=by omega
   have hee:bb.2 - 1=e:=he.symm;have r:=(hw.out.fr t).at;have i0:=r.i0;have i1:=r.i1;have i2:=r.i2;have aq:∀W,Dm W b bb.1 ng->Fr (fun k=>k=b) w W->¬e < -1022->Dm W b c ng:=fun W h1 _ h2=>by rw [hc,if_neg h2];exact h1
   have ay:∀n:Nat,e < -1022->(n:Int)=-1022 - e->Calls Tryz.prog 147 #[.pointer (some ⟨b,0,none⟩),.int .i64 (-(n:Int))] wz fun x w' => x=.returned (.tuple #[])/\Dm w' b c ng/\Fr (fun k=>k=b) wz w' := fun n h1 h2=>by
    have e3:(-1022 - e).toNat=n:=by omega
    rw [hc,if_pos h1,e3];exact shiftR_any a8 gb.out (by omega) (by omega) (by omega) (by omega) (by omega) (by decide)
   have az:e < -1022->e2=-1022:=fun h=>by rw [he2,if_pos h]
   have a0:¬e < -1022->e2=e:=fun h=>by rw [he2,if_neg h]
   replace he:=Hd he;replace hc:=Hd hc;replace he2:=Hd he2;replace hm:=Hd hm;replace aj:=Hd aj;replace ay:=Hd ay;replace aq:=Hd aq;replace az:=Hd az;replace a0:=Hd a0;replace r:=Hd r;replace a8:=Hd a8;replace t:=Hd t;clear a6 a7
   go_upto_if 111 with fail
   go_cut [6,10] from 104 to 125 (fun s6 _ wx=>s6=.int .i64 e2/\Dm wx b c ng/\Fr (fun k=>k=b) w wx)
   case first=>
    by_cases hlt:e < -1022
    ·obtain ⟨n,hn⟩:∃n:Nat,(n:Int)=-1022 - e:=⟨(-1022 - e).toNat,by omega⟩
     have hn2:-1022 - e=(n:Int):=hn.symm;have hx:=Hd (ay.out n hlt hn);have hen:e+(n:Int)=-1022:=by omega
     have ak := Hd (az.out hlt);replace hn:=Hd hn;go_wp2_with fail
     refine hx.out.mono ?_;rintro x w2 ⟨rfl,h2,h3⟩;have b3:=Hd (t.out.trans h3);replace h2:=Hd h2;clear h3;go_wp2_with fail
     go_meet
     exact ⟨by rw [ak.out],h2.out,b3.out⟩
    ·have ak := a0.out hlt
     have al:=Hd (aq.out _ a8.out t.out hlt);replace ak := Hd ak;go_wp2_with fail
     go_meet
     exact ⟨by rw [ak.out],al.out,t.out⟩
   case rest=>
    clear i0 i1 i2 r;obtain ⟨rfl,al,ao⟩:=hcut
    rename World=>wt
    have r:=(hw.out.fr ao).at;have i0:=r.i0;have i1:=r.i1;have i2:=r.i2;obtain ⟨E,hE⟩:∃E:Nat,e2+1023=(E:Int):=⟨(e2+1023).toNat,by omega⟩;have bg:e2 - (-1023)=(E:Int):=by omega
    have bq:wt.cell? ⟨b,802,none⟩=some (.bool ng):=by obtain ⟨f,hx,_⟩:=al;exact hx.sg
    by_cases hov:1024<=e2
    ·have ab:fbR d=9218868437227405312:=by
      have:=bp.out;rw [if_pos hov] at this;unfold fbR;rw [this]
     have b4:(2047:Int)<=(E:Int):=by omega
     have ac:=Hd (ao);replace ab:=Hd ab;replace al:=Hd al;replace ao:=Hd ao;replace r:=Hd r;clear hov;go_upto_region 30 with fail
     go_quiet (fail)
     go_wp2_with fail
     go_step3
     refine Or.inr ⟨rfl,?_⟩;show Code.wp _ _ _ _ _;go_upto_region 40 with fail
     go_quiet (fail)
     go_wp2_with fail
     go_step3
     go_upto_region 43 with fail
     go_quiet (fail)
     cases ng
     ·go_wp2_with fail
      rw [Exit.noGoto_ret];refine bodyPost_ret (v:=.tuple #[.int .u64 9218868437227405312,.bool true]) (by simp [results,Tryz.results209,go_sem]) rfl ⟨(by rw [ab.out];rfl),?_⟩;repeat (first | exact ac.out | refine Fr.drewN ?_ _)
     ·go_upto_region 45 with fail
      go_quiet (fail)
      go_wp2_with fail
      rw [Exit.noGoto_ret];refine bodyPost_ret (v:=.tuple #[.int .u64 18442240474082181120,.bool true]) (by simp [results,Tryz.results209,go_sem]) rfl ⟨(by rw [ab.out];rfl),?_⟩;repeat (first | exact ac.out | refine Fr.drewN ?_ _)
    ·have am:=bp.out
     rw [if_neg hov] at am;replace am:=Hd am;have b4:¬(2047:Int)<=(E:Int):=by omega
     have p:∀q,Calls Tryz.prog 147 #[.pointer (some ⟨b,0,none⟩),.int .i64 53] (wt.drewN q) fun x w' => x=.returned (.tuple #[])/\Dm w' b (lsD 53 c) ng/\Fr (fun k=>k=b) (wt.drewN q) w' := fun q=>
      shiftL_any (k:=53) ((hw.out.fr ao).drewN q) (al.drewN q) aj.out.1 (by decide) (by decide) (by have:=aj.out.2;omega) (by have:=aj.out.2;omega)
     obtain ⟨g1,g2,_,_⟩:=ls_good aj.out.1 53;have g3:=ls_len aj.out.1 53;rw [cheat53] at g3;have b5:=aj.out.2;have a3:-1000000<=(lsD 53 c).dp/\(lsD 53 c).dp<=16:=by
      generalize (if A3 c.L (Lib.decDigits (5 ^ 53))=true then 1 else 0)=z at g3;rw [g2];omega
     have bh:∀W,Dm W b (lsD 53 c) ng->Calls Tryz.prog 240 #[.pointer (some ⟨b,0,none⟩)] W fun x w' => x=.returned (.int .u64 (m:Int))/\w' = W:=fun W h=>by
      rw [hm.out];exact rounded_any h g1 a3.1 a3.2
     have hm9:m<=10000000000000000:=by rw [hm.out];exact rnd_lt g1 a3.2
     have aa:∀q,Fr (fun k=>k=b) w (wt.drewN q):=fun q=>ao.drewN q;have ar:=Hd ((fb_lt d (.inr hg.out)).2);have hE9:1<=E/\E<=2046:=by omega
     have av:e2=(E:Int) - 1023:=by omega
     replace av:=Hd av;replace aa:=Hd aa;replace bh:=Hd bh;replace p:=Hd p;replace al:=Hd al;replace ao:=Hd ao;replace r:=Hd r;clear g1 g2 g3 b5 a3;go_upto_region 30 with fail
     go_quiet (fail)
     go_wp2_with fail
     refine (p.out _).mono ?_;rintro x w3 ⟨rfl,h3,h4⟩;clear i0 i1 i2 bq;have ac:=(aa.out _).trans h4;have an:=(hw.out.fr ac).at;have i0:=an.i0;have i1:=an.i1;have i2:=an.i2;have bq:w3.cell? ⟨b,802,none⟩=some (.bool ng):=by obtain ⟨f,hx,_⟩:=h3;exact hx.sg
     have b6:=Hd (bh.out w3 h3);replace ac:=Hd ac;replace an:=Hd an;replace h3:=Hd h3;clear h4;go_wp2_with fail
     refine b6.out.mono ?_;rintro x w4 ⟨rfl,bz⟩;obtain rfl:=bz.symm;clear bz;by_cases hm53:m=9007199254740992
     ·have g:=am.out
      rw [if_pos hm53] at g;have hmi:(m:Int)=9007199254740992:=by omega
      by_cases hov2:1024<=e2+1
      ·have ab:fbR d=9218868437227405312:=by
        rw [if_pos hov2] at g;unfold fbR;rw [g]
       have b7:e2+1+1023=2047:=by have:=av.out;omega
       have b8:e2+1 - (-1023)=2047:=by omega
       replace ab:=Hd ab;replace g:=Hd g;replace hm53:=Hd hm53;clear hov2 hE bg;go_upto_region 36 with fail
       go_quiet (fail)
       go_wp2_with fail
       go_step3
       refine Or.inr ⟨rfl,?_⟩;show Code.wp _ _ _ _ _;go_upto_region 40 with fail
       go_quiet (fail)
       go_wp2_with fail
       go_step3
       go_upto_region 43 with fail
       go_quiet (fail)
       cases ng
       ·go_wp2_with fail
        rw [Exit.noGoto_ret];refine bodyPost_ret (v:=.tuple #[.int .u64 9218868437227405312,.bool true]) (by simp [results,Tryz.results209,go_sem]) rfl ⟨(by rw [ab.out];rfl),?_⟩;repeat (first | exact ac.out | refine Fr.drewN ?_ _)
       ·go_upto_region 45 with fail
        go_quiet (fail)
        go_wp2_with fail
        rw [Exit.noGoto_ret];refine bodyPost_ret (v:=.tuple #[.int .u64 18442240474082181120,.bool true]) (by simp [results,Tryz.results209,go_sem]) rfl ⟨(by rw [ab.out];rfl),?_⟩;repeat (first | exact ac.out | refine Fr.drewN ?_ _)
      ·rw [if_neg hov2] at g
       obtain ⟨E1,hE1⟩:∃E1:Nat,E1=E+1:=⟨_,rfl⟩;have b7:e2+1+1023=(E1:Int):=by omega
       have b8:e2+1 - (-1023)=(E1:Int):=by omega
       have hE5:¬(2047:Int)<=(E1:Int):=by have:=av.out;omega
       have b9:E1<=2047:=by omega
       have hbit:bits .and .u64 4503599627370496 4503599627370496=4503599627370496:=by decide +kernel
       have hcl:bits .and .u64 4503599627370496 4503599627370495=0:=by decide +kernel
       have af:(e2+1+1023).toNat=E1:=by omega
       have hO:=outs_of (M:=4503599627370496) (E1:=E1) (by decide) b9;have aw:fbM d=some (4503599627370496,e2+1):=g;obtain ⟨B,hB⟩:∃B,B=E1 * 4503599627370496:=⟨_,rfl⟩;have ad:fbR d=B:=by
        unfold fbR;rw [aw];dsimp only;rw [af,hB];simp
       have ae:fbR d≠9218868437227405312:=fun h=>by
        have:=ar.out.2 h;rw [aw] at this;cases this
       have a2:=hO.a2;have a4:=hO.a4;have a5:=hO.a5;have e0:4503599627370496 % 4503599627370496=0:=by decide
       rw [e0,Nat.zero_add,<-hB] at a4 a5;have bi:(E1:Int) * 4503599627370496=(B:Int):=by rw [hB];simp
       have br:B<=9223372036854775808:=by rw [hB];omega
       obtain ⟨B2,hB2⟩:∃B2,B2=B+9223372036854775808:=⟨_,rfl⟩;rw [<-hB2] at a5;have j:Ending.returned (.tuple #[.int .u64 (B:Int),.bool false])=Ending.returned (.tuple #[.int .u64 ((fbR d+sgB false:Nat):Int),.bool (decide (fbR d=9218868437227405312))]):=by
        rw [decide_eq_false ae,ad];rfl
       have o:Ending.returned (.tuple #[.int .u64 (B2:Int),.bool false])=Ending.returned (.tuple #[.int .u64 ((fbR d+sgB true:Nat):Int),.bool (decide (fbR d=9218868437227405312))]):=by
        rw [decide_eq_false ae,ad,hB2];rfl
       have a4' : bits .or .u64 0 (B:Int)=(B:Int):=a4;clear a4 hO e0;replace j:=Hd j;replace o:=Hd o;replace hB:=Hd hB;replace hB2:=Hd hB2;replace ad:=Hd ad;replace ae:=Hd ae;replace g:=Hd g;replace aw:=Hd aw;replace af:=Hd af;replace hE1:=Hd hE1;replace hm53:=Hd hm53;clear hov2 hE bg;go_upto_region 36 with fail
       go_quiet (fail)
       go_wp2_with fail
       go_step3
       refine Or.inl ⟨rfl,?_⟩;show Code.wp _ _ _ _ _;go_upto_region 43 with fail
       go_quiet (fail)
       cases ng
       ·go_wp2_with fail
        rw [Exit.noGoto_ret];refine bodyPost_ret (v:=.tuple #[.int .u64 (B:Int),.bool false]) (by simp [results,Tryz.results209,go_sem]) rfl ⟨j.out,?_⟩;repeat (first | exact ac.out | refine Fr.drewN ?_ _)
       ·go_upto_region 45 with fail
        go_quiet (fail)
        go_wp2_with fail
        rw [Exit.noGoto_ret];refine bodyPost_ret (v:=.tuple #[.int .u64 (B2:Int),.bool false]) (by simp [results,Tryz.results209,go_sem]) rfl ⟨o.out,?_⟩;repeat (first | exact ac.out | refine Fr.drewN ?_ _)
     ·have g:=am.out
      rw [if_neg hm53] at g;have hmne:((m:Int) == 9007199254740992)=false:=by rw [beq_eq_false_iff_ne];omega
      have ag:bits .and .u64 (m:Int) 4503599627370496=((m / 4503599627370496 % 2 * 4503599627370496:Nat):Int):=by
       have h1:=Cb (x:=m) (y:=4503599627370496) (by omega) (by omega);rw [and52 (x:=m) (q:=m / 4503599627370496) (c:=m % 4503599627370496) (by omega) (Nat.mod_lt _ (by decide))] at h1;exact h1
      by_cases hq:m / 4503599627370496 % 2=0
      ·rw [if_pos hq] at g
       rw [hq,Nat.zero_mul] at ag;have bj : bits .and .u64 (m:Int) 4503599627370496=0:=ag;obtain ⟨E0,hE0⟩:∃E0:Nat,E0=0:=⟨_,rfl⟩;have af:((-1023:Int)+1023).toNat=E0:=by rw [hE0];rfl
       have hE0b:E0<=2047:=by omega
       clear ag;have hO:=outs_of (M:=m) (E1:=E0) (by omega) (by omega);obtain ⟨B,hB⟩:∃B,B=m % 4503599627370496+E0 * 4503599627370496:=⟨_,rfl⟩;have ad:fbR d=B:=by
        unfold fbR;rw [g];dsimp only;rw [af,hB]
       have ae:fbR d≠9218868437227405312:=fun h=>by
        have:=ar.out.2 h;rw [g] at this;cases this
       rw [<-hB] at hO;have a1:=hO.a1;have a2:=hO.a2;have a4:=hO.a4;have a5:=hO.a5;obtain ⟨m2,hm2⟩:∃m2,m2=m % 4503599627370496:=⟨_,rfl⟩;obtain ⟨x2,hx2⟩:∃x2,x2=E0 * 4503599627370496:=⟨_,rfl⟩;rw [<-hm2] at a1 a4;rw [<-hx2] at a4;have bi:((E0:Nat):Int) * 4503599627370496=(x2:Int):=by rw [hx2];simp
       have br:x2<=9223372036854775808:=by rw [hx2];omega
       obtain ⟨B2,hB2⟩:∃B2,B2=B+9223372036854775808:=⟨_,rfl⟩;rw [<-hB2] at a5;have j:Ending.returned (.tuple #[.int .u64 (B:Int),.bool false])=Ending.returned (.tuple #[.int .u64 ((fbR d+sgB false:Nat):Int),.bool (decide (fbR d=9218868437227405312))]):=by
        rw [decide_eq_false ae,ad];rfl
       have o:Ending.returned (.tuple #[.int .u64 (B2:Int),.bool false])=Ending.returned (.tuple #[.int .u64 ((fbR d+sgB true:Nat):Int),.bool (decide (fbR d=9218868437227405312))]):=by
        rw [decide_eq_false ae,ad,hB2];rfl
       clear hO;replace j:=Hd j;replace o:=Hd o;replace hB:=Hd hB;replace hB2:=Hd hB2;replace hm2:=Hd hm2;replace hx2:=Hd hx2;replace ad:=Hd ad;replace ae:=Hd ae;replace g:=Hd g;replace af:=Hd af;have a2' : bits .and .i64 0 2047=0:=by decide +kernel
       have bk:(x2:Int)=0:=by have h9:=hx2.out;rw [hE0,Nat.zero_mul] at h9;rw [h9];decide
       rw [bk] at a4;clear a2 bi hE bg af;replace hE0:=Hd hE0;replace bk:=Hd bk;replace hq:=Hd hq;go_wp2_with fail
       go_step3
       refine Or.inl ⟨rfl,?_⟩;show Code.wp _ _ _ _ _;go_upto_region 43 with fail
       go_quiet (fail)
       cases ng
       ·go_wp2_with fail
        rw [Exit.noGoto_ret];refine bodyPost_ret (v:=.tuple #[.int .u64 (B:Int),.bool false]) (by simp [results,Tryz.results209,go_sem]) rfl ⟨j.out,?_⟩;repeat (first | exact ac.out | refine Fr.drewN ?_ _)
       ·go_upto_region 45 with fail
        go_quiet (fail)
        go_wp2_with fail
        rw [Exit.noGoto_ret];refine bodyPost_ret (v:=.tuple #[.int .u64 (B2:Int),.bool false]) (by simp [results,Tryz.results209,go_sem]) rfl ⟨o.out,?_⟩;repeat (first | exact ac.out | refine Fr.drewN ?_ _)
      ·rw [if_neg hq] at g
       have au:m / 4503599627370496 % 2=1:=by omega
       rw [au,Nat.one_mul] at ag;have bj : bits .and .u64 (m:Int) 4503599627370496=4503599627370496:=ag;have af:(e2+1023).toNat=E:=by omega
       clear ag;have hO:=outs_of (M:=m) (E1:=E) (by omega) (by omega);obtain ⟨B,hB⟩:∃B,B=m % 4503599627370496+E * 4503599627370496:=⟨_,rfl⟩;have ad:fbR d=B:=by
        unfold fbR;rw [g];dsimp only;rw [af,hB]
       have ae:fbR d≠9218868437227405312:=fun h=>by
        have:=ar.out.2 h;rw [g] at this;cases this
       rw [<-hB] at hO;have a1:=hO.a1;have a2:=hO.a2;have a4:=hO.a4;have a5:=hO.a5;obtain ⟨m2,hm2⟩:∃m2,m2=m % 4503599627370496:=⟨_,rfl⟩;obtain ⟨x2,hx2⟩:∃x2,x2=E * 4503599627370496:=⟨_,rfl⟩;rw [<-hm2] at a1 a4;rw [<-hx2] at a4;have bi:((E:Nat):Int) * 4503599627370496=(x2:Int):=by rw [hx2];simp
       have br:x2<=9223372036854775808:=by rw [hx2];omega
       obtain ⟨B2,hB2⟩:∃B2,B2=B+9223372036854775808:=⟨_,rfl⟩;rw [<-hB2] at a5;have j:Ending.returned (.tuple #[.int .u64 (B:Int),.bool false])=Ending.returned (.tuple #[.int .u64 ((fbR d+sgB false:Nat):Int),.bool (decide (fbR d=9218868437227405312))]):=by
        rw [decide_eq_false ae,ad];rfl
       have o:Ending.returned (.tuple #[.int .u64 (B2:Int),.bool false])=Ending.returned (.tuple #[.int .u64 ((fbR d+sgB true:Nat):Int),.bool (decide (fbR d=9218868437227405312))]):=by
        rw [decide_eq_false ae,ad,hB2];rfl
       clear hO;replace j:=Hd j;replace o:=Hd o;replace hB:=Hd hB;replace hB2:=Hd hB2;replace hm2:=Hd hm2;replace hx2:=Hd hx2;replace ad:=Hd ad;replace ae:=Hd ae;replace g:=Hd g;replace af:=Hd af;replace hq:=Hd hq;replace au:=Hd au;go_wp2_with fail
       go_step3
       refine Or.inl ⟨rfl,?_⟩;show Code.wp _ _ _ _ _;go_upto_region 43 with fail
       go_quiet (fail)
       cases ng
       ·go_wp2_with fail
        rw [Exit.noGoto_ret];refine bodyPost_ret (v:=.tuple #[.int .u64 (B:Int),.bool false]) (by simp [results,Tryz.results209,go_sem]) rfl ⟨j.out,?_⟩;repeat (first | exact ac.out | refine Fr.drewN ?_ _)
       ·go_upto_region 45 with fail
        go_quiet (fail)
        go_wp2_with fail
        rw [Exit.noGoto_ret];refine bodyPost_ret (v:=.tuple #[.int .u64 (B2:Int),.bool false]) (by simp [results,Tryz.results209,go_sem]) rfl ⟨o.out,?_⟩;repeat (first | exact ac.out | refine Fr.drewN ?_ _)
def decN (d:Bool) (L:List UInt8) (m:Nat) (x:Int):Dec:=⟨A1 L,(if d then (ndF L:Int) - m else ndF L)+x,false⟩
theorem set_any {s:ByteArray} {neg d:Bool} {L:List UInt8} {m:Nat} {x:Int} (h:FTxt s neg d L m x) (hz:s.size<=700) {w:World} {b:Nat} {f:Nat->UInt8} {n0 t0:Bool} (hD:DM w b f 0 0 n0 t0) :
  Calls Tryz.prog 208 #[.pointer (some ⟨b,0,none⟩),.string s] w fun e w' => e=.returned (.bool true)/\Dm w' b (decN d L m x) neg/\Fr (fun k=>k=b) w w' := by
 obtain ⟨⟨c,bl,rest,hs,hc,au,ad,bx⟩,hsz,bh⟩:=h;replace bh:=Hd bh;obtain ⟨a,ha⟩:∃a:Nat,a=if neg then 1 else 0:=⟨_,rfl⟩;have am:s.data.toList.drop a=c :: bl:=by
  rw [hs,ha];cases neg<;>rfl
 obtain ⟨halt,bd,bm⟩:=Ag am;have av:0<s.size:=by omega
 obtain ⟨c0,hc0⟩:∃c0:UInt8,s[0]'av=c0:=⟨_,rfl⟩;have aw:(neg=true/\a=1/\(c0.toNat:Int)=45)\/(neg=false/\a=0/\c0=c):=by
  cases neg with
  | true=>
   left;refine ⟨rfl,ha,?_⟩;have h1:=Lib.data_getElem? s 0 av;rw [hs,hc0] at h1;have h2:c0=45:=(Option.some.inj h1).symm;rw [h2];rfl
  | false=>
   right;have co:a=0:=ha;subst co;exact ⟨rfl,rfl,hc0.symm.trans bd⟩
 have h0lti:(0:Int)<(s.size:Int):=by omega
 have b2:¬s=ByteArray.empty:=fun e=>by rw [Ai,e] at av;exact absurd av (by decide)
 have hsne2:decide (s=ByteArray.empty)=false:=decide_eq_false b2;have hsz9:(s.size:Int)<=700:=by omega
 have ha1:a<=1:=by rw [ha];split<;>omega
 have hc9:48<=c.toNat/\c.toNat<=57:=by simp [isD] at hc;exact hc
 have cp:=hD.sg;have cq:=hD.cut;have cr:=hD.blk.frz 802 none;have cs:=hD.blk.frz 803 none;have a1:=(hD.setS false).setT false;have a2:=Fr.setCell (S:=fun k=>k=b) (p:=⟨b,803,none⟩) (Fr.setCell (S:=fun k=>k=b) (p:=⟨b,802,none⟩) (Fr.refl _ w) (fun _=>rfl) (.bool false)) (fun _=>rfl) (.bool false);have b3:=Hd (a1.setS true);have b4:=Hd (Fr.setCell (p:=⟨b,802,none⟩) a2 (fun _=>rfl) (.bool true));replace a1:=Hd a1;replace a2:=Hd a2;replace hD:=Hd hD;replace hs:=Hd hs;replace aw:=Hd aw;replace ha:=Hd ha;have b5:=bd;replace bd:=Hd bd;clear b5;replace au:=Hd au;replace ad:=Hd ad;replace bx:=Hd bx;replace hc:=Hd hc;replace am:=Hd am;replace bm:=Hd bm
 go_enter Tryz.func208,Tryz.ntmps208
 go_upto_block 0 with fail
 go_cut [5] from 22 to 33 (fun s5 wx=>s5=.int .i64 (a:Int)/\DM wx b f 0 0 neg false/\Fr (fun k=>k=b) w wx)
 case first=>
  rcases aw.out with ⟨e1,e2,e3⟩ | ⟨e1,e2,e3⟩
  ·subst e1
   subst e2;go_wp2_with fail
   go_meet
   exact ⟨rfl,b3.out,b4.out⟩
  ·subst e1
   subst e2;subst e3;have k1:¬(c0.toNat:Int)=43:=by omega
   have k2:¬(c0.toNat:Int)=45:=by omega
   have k3:((c0.toNat:Int) == 43)=false:=by simpa using k1
   have k4:((c0.toNat:Int) == 45)=false:=by simpa using k2
   go_wp2_with fail
   go_meet
   exact ⟨rfl,a1.out,a2.out⟩
 case rest=>
  clear a1 a2 b3 b4 hD cp cq cr cs;obtain ⟨rfl,hD,hF⟩:=hcut
  rename World=>wy
  clear aw hc0;have halti:(a:Int)<(s.size:Int):=by omega
  have hca' := bd.out;obtain ⟨K,hK⟩:∃K:Nat,K=s.size - rest.length:=⟨_,rfl⟩;have a3:∃p,c :: bl=p++rest:=Ek au.out;have an:K<=s.size/\s.data.toList.drop K=rest:=by
   obtain ⟨p,hp⟩:=a3;have h1:s.data.toList=(s.data.toList.take a++p)++rest:=by
    rw [List.append_assoc,<-hp,<-am.out,List.take_append_drop]
   have h2:=congrArg List.length h1;rw [<-Ai,List.length_append] at h2;have h3:K=(s.data.toList.take a++p).length:=by omega
   refine ⟨by omega,?_⟩;rw [h3];have h4:∀A B:List UInt8,(A++B).drop A.length=B:=fun A B=>List.drop_left ..;have h5:=h4 (s.data.toList.take a++p) rest;rw [<-h1] at h5;exact h5
  replace hK:=Hd hK;replace an:=Hd an;replace hD:=Hd hD;replace hF:=Hd hF;clear a3
  go_upto_block 1 with fail
  go_cut [5,6,7] from 36 to 116 (fun s5 s6 s7 wx=>s5=.int .i64 (K:Int)/\s6=.bool d/\s7=.bool true/\(∃g,DM wx b g (ndF L) ((ndF L:Int) - m) neg false/\row g (ndF L)=A1 L)/\Fr (fun k=>k=b) w wx)
  case first=>
   go_wp2_with fail
   go_loopw [5,6,7] (fun s5 s6 s7 wr=>∃(k:Nat) (e:Bool) (M:List UInt8) (j:Nat),s5=.int .i64 (k:Int)/\s6=.bool e/\s7=.bool (decide (M≠[])) /\
     k<=s.size/\j<=k/\M.length<=k/\(∀b∈M,isD b=true)/\(∀b∈s.data.toList.drop k,okC b)/\Cg (s.data.toList.drop k) e M j=(d,L,m,rest) /\
     (∃g,DM wr b g (ndF M) ((ndF M:Int) - j) neg false/\row g (ndF M)=A1 M)/\Fr (fun k=>k=b) w wr) (fun i _ _ _=>s.size - (intOf i).toNat)
   case atStart=>
    exact ⟨a,false,[],0,rfl,rfl,rfl,by omega,Nat.zero_le _,Nat.zero_le _,fun b hb=>by simp at hb,fun b hb=>bx.out b (by rw [<-am.out];exact hb),by rw [am.out];exact au.out,⟨f,hD.out,rfl⟩,hF.out⟩
   case round=>
    clear hD hF;obtain ⟨k,e,M,j,rfl,rfl,rfl,hk,hjk,hMk,bi,az,n,⟨g,hD,r⟩,hF⟩:=hrel;obtain ⟨nd,hnd⟩:∃nd,nd=ndF M:=⟨_,rfl⟩;obtain ⟨dp,hdp⟩:∃dp:Int,dp=(nd:Int) - j:=⟨_,rfl⟩;obtain ⟨nz,hnz⟩:∃nz:Bool,nz=decide (M≠[]):=⟨_,rfl⟩;have hndM:nd<=M.length:=by rw [hnd];exact C3 M
    rw [<-hnd] at hD r;rw [<-hdp] at hD;rw [<-hnz];have hdpb:-1000<=dp/\dp<=1000:=by omega
    have hnd9:nd<=700:=by omega
    have c0:=hD.nd;have c1:=hD.pt;have z0:=hD.blk.frz 800 none;have z1:=hD.blk.frz 801 none;replace hnd:=Hd hnd;replace hdp:=Hd hdp;replace hnz:=Hd hnz;replace bi:=Hd bi;replace az:=Hd az;replace r:=Hd r;cases hl:s.data.toList.drop k with
    | nil=>
     have a4:=Cq hl;have b6:s.size=k:=by omega
     rw [hl,Cg] at n;simp only [Prod.mk.injEq] at n;obtain ⟨rfl,rfl,rfl,aj⟩:=n;have ao:K=k:=by rw [hK.out,<-aj];simp;omega
     have bk:¬(k:Int)<(s.size:Int):=by omega
     rw [hnd.out] at hD r;replace hl:=Hd hl;replace aj:=Hd aj;replace b6:=Hd b6;replace ao:=Hd ao;replace hD:=Hd hD;replace hF:=Hd hF;clear a4;go_wp2_with fail
     go_meet
     exact ⟨by rw [ao.out],rfl,by rw [hnz.out,decide_eq_true bh.out],⟨g,by have:=hD.out;rw [hdp.out,hnd.out] at this;exact this,r.out⟩,hF.out⟩
    | cons c1 l1=>
     obtain ⟨cd,cv,be⟩:=Ag hl;have bk:(k:Int)<(s.size:Int):=by omega
     have ap:okC c1:=az.out c1 (by rw [hl];exact List.mem_cons_self ..);have aq:=okC_low ap;have q95:((c1.toNat:Int) == 95)=false:=by simp;omega
     have z:∀b∈s.data.toList.drop (k+1),okC b:=fun b hb=>az.out b (by rw [hl];rw [be] at hb;exact List.mem_cons_of_mem _ hb);have hc256:c1.toNat<256:=c1.toNat_lt;rw [hl,Cg] at n;replace z:=Hd z;replace be:=Hd be;replace hl:=Hd hl;replace ap:=Hd ap;by_cases h46:c1.toNat=46
     ·rw [if_pos h46] at n
      have ct:((c1.toNat:Int) == 46)=true:=by simp;omega
      have b7 : (c1.toNat:Int)=46:=by omega
      cases e with
      | true=>
       exfalso;simp only [if_true,Prod.mk.injEq] at n;have hx:=ad.out;rw [<-n.2.2.2] at hx;cases hx<;>(revert h46;decide)
      | false=>
       rw [if_neg (by decide),<-be.out] at n;have ac:=Hd (hD.setP (nd:Int));replace n:=Hd n;replace hD:=Hd hD;replace hF:=Hd hF;clear aq h46;go_wp2_with fail
       go_round
       case rel=>exact ⟨k+1,true,M,0,by go_num,rfl,by rw [hnz.out],by omega,by omega,by omega,bi.out,z.out,n.out,⟨g,by rw [<-hnd.out];simpa using ac.out,by rw [<-hnd.out];exact r.out⟩,hF.out.setCell (fun _=>rfl) _⟩
       case measure=>simp [intOf];omega
     ·rw [if_neg h46] at n
      have ct:((c1.toNat:Int) == 46)=false:=by simp;omega
      have b7 : ¬(c1.toNat:Int)=46:=by omega
      by_cases hdg:isD c1=true
      ·rw [if_pos hdg,<-be.out] at n
       have hdr:48<=c1.toNat/\c1.toNat<=57:=by simp [isD] at hdg;exact hdg
       have r1:(48:Int)<=(c1.toNat:Int):=by omega
       have r2:(c1.toNat:Int)<=57:=by omega
       have ae:∀b∈M++[c1],isD b=true:=fun b hb=>by
        rw [List.mem_append,List.mem_singleton] at hb;rcases hb with hb | hb
        ·exact bi.out b hb
        ·rw [hb];exact hdg
       replace ae:=Hd ae;replace n:=Hd n;have af:decide (M++[c1]≠[])=true:=decide_eq_true (by simp);replace af:=Hd af;clear aq;by_cases hz0:c1.toNat=48/\nd=0
       ·have b8 : ((c1.toNat:Int) == 48)=true:=by simp;omega
        have a5:c1=48:=UInt8.toNat_inj.1 hz0.1;have ar:=ndF_zero (l:=M) (by rw [<-hnd.out];exact hz0.2);rw [<-a5] at ar;obtain ⟨cw,bj⟩:=hz0;have z3:(c1.toNat:Int)=48:=by omega
        have a6:A1 (M++[c1])=[]:=List.eq_nil_of_length_eq_zero ar.1;have ac:=hD.setP (dp - 1);have hn0i:(nd:Int)=0:=by omega
        have br:dp - 1=((ndF (M++[c1]):Nat):Int) - ((j+1:Nat):Int):=by rw [ar.1];have:=hdp.out;omega
        have a7:ndF (M++[c1])=nd:=by rw [ar.1,bj]
        have t:∃g', DM (wr.setCell ⟨b,801,none⟩ (.int .i64 (dp - 1))) b g' (ndF (M++[c1])) ((ndF (M++[c1]):Int) - ((j+1:Nat):Int)) neg false/\row g' (ndF (M++[c1]))=A1 (M++[c1]):=by
         refine ⟨g,?_,?_⟩
         ·rw [<-br,a7];exact ac
         ·rw [ar.1,a6];rfl
        replace t:=Hd t;replace ac:=Hd ac;replace br:=Hd br;replace a7:=Hd a7;replace a6:=Hd a6;replace ar:=Hd ar;replace a5:=Hd a5;replace hD:=Hd hD;replace hF:=Hd hF;clear cw h46;rw [bj] at c0;replace bj:=Hd bj;go_wp2_with fail
        go_round
        case rel=>exact ⟨k+1,e,M++[c1],j+1,by go_num,rfl,by rw [af.out],by omega,by omega,by simp;omega,ae.out,z.out,n.out,t.out,hF.out.setCell (fun _=>rfl) _⟩
        case measure=>simp [intOf];omega
       ·have bg:c1≠48\/ndF M≠0:=by
         rw [<-hnd.out];by_cases h48:c1.toNat=48
         ·right;intro e0;exact hz0 ⟨h48,e0⟩
         ·left;intro e0;exact h48 (by rw [e0];rfl)
        obtain ⟨s1,_,_⟩:=ndF_snoc bg;rw [<-hnd.out] at s1;have bs:A1 (M++[c1])=A1 M++[c1]:=stripL_snoc (by
         rcases bg with h9 | h9
         ·exact .inl h9
         ·right;intro e0;apply h9;unfold ndF;rw [e0];rfl)
        have b9:nd<800:=by omega
        have hcd:=hD.dig nd b9;have zd:=hD.blk.frz nd none;have a8:=(hD.put b9 c1).setN (nd+1);have hn8i:(nd:Int)<800:=by omega
        have bt:(nd:Int)+1=((nd+1:Nat):Int):=by omega
        have t:∃g', DM ((wr.setCell ⟨b,nd,none⟩ (.int .u8 (c1.toNat:Int))).setCell ⟨b,800,none⟩ (.int .i64 ((nd:Int)+1))) b g' (ndF (M++[c1])) ((ndF (M++[c1]):Int) - ((j+1:Nat):Int)) neg false/\row g' (ndF (M++[c1]))=A1 (M++[c1]):=by
         refine ⟨stF g nd c1,?_,?_⟩
         ·have e9:((ndF (M++[c1]):Nat):Int) - ((j+1:Nat):Int)=dp:=by rw [s1];have:=hdp.out;omega
          rw [e9,s1,bt];exact a8
         ·rw [s1,bs,row_put,r.out]
        have a9:=Hd ((hF.setCell (p:=⟨b,nd,none⟩) (fun _=>rfl) (.int .u8 (c1.toNat:Int))).setCell (p:=⟨b,800,none⟩) (fun _=>rfl) (.int .i64 ((nd:Int)+1)));have ca:¬((c1.toNat:Int)=48/\(nd:Int)=0):=by omega
        replace t:=Hd t;replace a8:=Hd a8;replace s1:=Hd s1;replace bs:=Hd bs;replace bg:=Hd bg;replace hD:=Hd hD;replace hF:=Hd hF;replace bt:=Hd bt;clear h46 hz0;by_cases h48:c1.toNat=48
        ·have b8 : ((c1.toNat:Int) == 48)=true:=by simp;omega
         have z2' : ((nd:Int) == 0)=false:=by rw [beq_eq_false_iff_ne];omega
         clear ca h48;go_upto_region 25 with fail
         go_region
         go_wp2_with fail
         go_round
         case rel=>exact ⟨k+1,e,M++[c1],j+1,by go_num,rfl,by rw [af.out],by omega,by omega,by simp;omega,ae.out,z.out,n.out,(by obtain ⟨g', x1,x2⟩:=t.out;exact ⟨g', x1.drewN 1,x2⟩),a9.out.drew⟩
         case measure=>simp [intOf];omega
        ·have b8 : ((c1.toNat:Int) == 48)=false:=by rw [beq_eq_false_iff_ne];omega
         clear ca h48;go_upto_region 25 with fail
         go_region
         go_wp2_with fail
         go_round
         case rel=>exact ⟨k+1,e,M++[c1],j+1,by go_num,rfl,by rw [af.out],by omega,by omega,by simp;omega,ae.out,z.out,n.out,(by obtain ⟨g', x1,x2⟩:=t.out;exact ⟨g', x1.drewN 1,x2⟩),a9.out.drew⟩
         case measure=>simp [intOf];omega
      ·rw [if_neg hdg] at n
       simp only [Prod.mk.injEq] at n;obtain ⟨rfl,rfl,rfl,aj⟩:=n;have ax:c1.toNat=101:=by
        have hx:=ad.out;rw [<-aj] at hx;cases hx<;>rfl
       have ao:K=k:=by
        have h1:=congrArg List.length hl.out;rw [List.length_drop,<-Ai,aj] at h1;rw [hK.out];omega
       have r1:(48:Int)<=(c1.toNat:Int):=by omega
       have r2:¬(c1.toNat:Int)<=57:=by omega
       replace aj:=Hd aj;replace ao:=Hd ao;replace hD:=Hd hD;replace hF:=Hd hF;clear aq;go_wp2_with fail
       go_meet
       exact ⟨by rw [ao.out],rfl,by rw [hnz.out,decide_eq_true bh.out],⟨g,by have:=hD.out;rw [hdp.out,hnd.out] at this;exact this,by rw [<-hnd.out];exact r.out⟩,hF.out⟩
  case rest=>
   clear hD hF;obtain ⟨rfl,rfl,rfl,⟨g,hD,r⟩,hF⟩:=hcut
   rename World=>wt
   obtain ⟨nd,hnd⟩:∃nd,nd=ndF L:=⟨_,rfl⟩;obtain ⟨dp,hdp⟩:∃dp:Int,dp=(nd:Int) - m:=⟨_,rfl⟩;obtain ⟨dq,hdq⟩:∃dq:Int,dq=if d then dp else (nd:Int):=⟨_,rfl⟩;rw [<-hnd] at hD r;rw [<-hdp] at hD;have ba:decN d L m x=⟨A1 L,dq+x,false⟩:=by unfold decN;rw [<-hnd,<-hdp,hdq]
   have ay:(A1 L).length=nd:=by rw [hnd];rfl
   have hLs:nd<=700/\m<=700:=by
    have h1:=Dq au.out;have h2:=congrArg List.length am.out;rw [List.length_drop,<-Ai] at h2;have h3:nd<=L.length:=by rw [hnd];exact C3 L
    simp only [List.length_nil] at h1;omega
   have hdp9:-1000<=dp/\dp<=1000:=by omega
   have hdq9:-1000<=dq/\dq<=1000:=by rw [hdq];split<;>omega
   have hx9:-100000<=x/\x<=100000:=by
    have hx:=ad.out;clear ad an au;cases hx with
    | none=>omega
    | bare h1 h2=>have:=C9 h2;omega
    | plus h1 h2=>have:=C9 h2;omega
    | minus h1 h2=>have:=C9 h2;omega
   have c0:=hD.nd;have c1:=hD.pt;have z1:=hD.blk.frz 801 none;have cb:=Hd (hD.setP (nd:Int));have cc:=Hd (Fr.setCell (p:=⟨b,801,none⟩) hF (fun _=>rfl) (.int .i64 (nd:Int)));replace hnd:=Hd hnd;replace hdp:=Hd hdp;replace hdq:=Hd hdq;replace ba:=Hd ba;replace ay:=Hd ay;replace r:=Hd r;replace hD:=Hd hD;replace hF:=Hd hF
   go_upto_if 120 with fail
   go_cut [] from 121 to 127 (fun wx=>DM wx b g nd dq neg false/\Fr (fun k=>k=b) w wx)
   case first=>
    cases d
    ·have e1:dq=(nd:Int):=hdq.out
     replace e1:=Hd e1;go_wp2_with fail
     go_meet
     exact ⟨by rw [e1.out];exact cb.out,cc.out⟩
    ·have e1:dq=dp:=hdq.out
     replace e1:=Hd e1;go_wp2_with fail
     go_meet
     exact ⟨by rw [e1.out];exact hD.out,hF.out⟩
   case rest=>
    clear c0 c1 z1 cb cc hD hF;obtain ⟨hD,hF⟩:=hcut
    rename World=>wu
    have c1:=hD.pt;have z1:=hD.blk.frz 801 none;have ac:=Hd (fun q=>hD.setP q);have bu:=Hd (fun q=>Fr.setCell (p:=⟨b,801,none⟩) hF (fun _=>rfl) (.int .i64 q));replace hD:=Hd hD;replace hF:=Hd hF;go_upto_region 32 with fail
    go_cut [138] from 128 to 138 (fun s138 wx=>s138=.bool (!rest.isEmpty)/\wx=wu)
    case first=>
     cases hr:rest with
     | nil=>
      have bv:=Cq (hr ▸ an.out.2);have cd:¬(K:Int)<(s.size:Int):=by omega
      clear bv;replace hr:=Hd hr;go_wp2_with fail
      go_meet
      exact ⟨by rw [hr.out];rfl,rfl⟩
     | cons c1 l1=>
      obtain ⟨cd,cv,_⟩:=Ag (hr ▸ an.out.2);have ax:c1.toNat=101:=by
       have hx:=ad.out;rw [hr] at hx;cases hx<;>rfl
      have bb:okC c1:=.inr (.inr (.inl ax));have q1:((c1.toNat:Int) == 101)=true:=by simp [ax]
      have bk:(K:Int)<(s.size:Int):=by omega
      replace hr:=Hd hr;replace bb:=Hd bb;clear ax;go_wp2_with fail
      refine (lower_ok bb.out _).mono ?_;rintro e w' ⟨rfl,bf⟩;obtain rfl:=bf.symm;clear bf;go_wp2_with fail
      go_meet
      exact ⟨by rw [hr.out];rfl,rfl⟩
    case rest=>
     obtain ⟨rfl,bf⟩:=hcut;obtain rfl:=bf.symm;clear bf
     go_upto_if 138 with fail
     go_cut [5,8,9] from 139 to 219 (fun s5 _ _ wx=>s5=.int .i64 (s.size:Int)/\DM wx b g nd (dq+x) neg false/\Fr (fun k=>k=b) w wx)
     case first=>
      have hx:=ad.out;have ag:=an.out;clear ad an au;cases hx with
      | none=>
       have bv:=Cq ag.2;have a4:(K:Int)=(s.size:Int):=by omega
       replace a4:=Hd a4;clear bv ag;go_wp2_with fail
       go_meet
       exact ⟨by rw [a4.out],by rw [Int.add_zero];exact hD.out,hF.out⟩
      | @bare E hEne hEd=>
       obtain ⟨bn,cl,a0⟩:=Ag ag.2;have bw:(K:Int)+1=((K+1:Nat):Int):=by omega
       have ce:(K:Int)<=1000:=by omega
       clear ag;obtain ⟨q,hq⟩:∃q:Nat,q=K+1:=⟨_,rfl⟩;rw [<-hq] at a0 bw;replace hq:=Hd hq;have o:s.data.toList.drop q=E:=a0;cases hEE:E with
       | nil=>exact absurd hEE hEne
       | cons c2 E2=>
        rw [hEE] at o;obtain ⟨bo,cm,ak⟩:=Ag o;have cf:48<=c2.toNat/\c2.toNat<=57:=by
         have:=hEd c2 (by rw [hEE];exact List.mem_cons_self ..);simp [isD] at this;exact this
        have y0:((q:Nat):Int)<(s.size:Int):=by omega
        have y1:¬(c2.toNat:Int)<48:=by omega
        have y2:¬(57:Int)<(c2.toNat:Int):=by omega
        have y3:((c2.toNat:Int) == 43)=false:=by simp;omega
        have y4:((c2.toNat:Int) == 45)=false:=by simp;omega
        rw [<-hEE] at o;have u:q+E.length=s.size:=by
         have h1:=congrArg List.length o;rw [List.length_drop,<-Ai] at h1;omega
        replace o:=Hd o;replace hEE:=Hd hEE;replace hEd:=Hd hEd;replace hEne:=Hd hEne;replace ak:=Hd ak;replace u:=Hd u;go_wp2_with fail
        go_loop [5,9] (fun s5 s9=>∃j:Nat,j<=E.length/\s5=.int .i64 ((q+j:Nat):Int)/\s9=.int .i64 (capE (E.take j):Int)) (fun i _=>s.size - (intOf i).toNat)
        case atStart=>exact ⟨0,Nat.zero_le _,rfl,rfl⟩
        case round=>
         obtain ⟨j,hj,rfl,rfl⟩:=hrel;obtain ⟨i,hi⟩:∃i:Nat,i=q+j:=⟨_,rfl⟩;obtain ⟨e,hee⟩:∃e:Nat,e=capE (E.take j):=⟨_,rfl⟩;have cg:e<100000:=by rw [hee];exact C9 (fun b hb=>hEd.out b (List.mem_of_mem_take hb))
         rw [<-hi,<-hee];replace hi:=Hd hi;replace hee:=Hd hee;by_cases hjl:j<E.length
         ·have y:s.data.toList.drop i=E[j] :: E.drop (j+1):=by
           rw [hi.out,<-List.drop_drop,o.out];exact List.drop_eq_getElem_cons hjl
          obtain ⟨cj,hcj⟩:∃cj,cj=E[j]:=⟨_,rfl⟩;rw [<-hcj] at y;obtain ⟨bp,bq,_⟩:=Ag y;have ch:48<=cj.toNat/\cj.toNat<=57:=by
           have:=hEd.out cj (by rw [hcj];exact List.getElem_mem hjl);simp [isD] at this;exact this
          have x0:(i:Int)<(s.size:Int):=by omega
          have x1:(48:Int)<=(cj.toNat:Int):=by omega
          have x2:(cj.toNat:Int)<=57:=by omega
          have x3:((cj.toNat:Int) == 95)=false:=by simp;omega
          have ci : ¬(cj.toNat:Int)=95:=by omega
          have ah:E.take (j+1)=E.take j++[cj]:=by rw [List.take_succ_eq_append_getElem hjl,hcj]
          have v:=Es (E.take j) cj;rw [<-ah,<-hee.out] at v;replace v:=Hd v;replace y:=Hd y;replace hcj:=Hd hcj;clear ah;by_cases hcap:e<10000
          ·have x4:(e:Int)<10000:=by omega
           have x5:((capE (E.take (j+1)):Nat):Int)=(e:Int) * 10+(cj.toNat:Int) - 48:=by
            rw [v.out,if_pos hcap];unfold dv;omega
           replace x5:=Hd x5;go_wp2_with fail
           go_round
           case rel=>exact ⟨j+1,by omega,by rw [hi.out];go_num,by rw [x5.out]⟩
           case measure=>have:=hi.out;have:=u.out;simp [intOf];omega
          ·have x4:¬(e:Int)<10000:=by omega
           have x5:((capE (E.take (j+1)):Nat):Int)=(e:Int):=by rw [v.out,if_neg hcap]
           replace x5:=Hd x5;go_wp2_with fail
           go_round
           case rel=>exact ⟨j+1,by omega,by rw [hi.out];go_num,by rw [x5.out]⟩
           case measure=>have:=hi.out;have:=u.out;simp [intOf];omega
         ·have aa:j=E.length:=by omega
          have ai:s.size=i:=by rw [hi.out,aa];exact u.out.symm
          have ab:e=capE E:=by rw [hee.out,aa,List.take_length]
          have x0:¬(i:Int)<(s.size:Int):=by omega
          have x6:(i:Int)=(s.size:Int):=by omega
          replace ai:=Hd ai;replace ab:=Hd ab;replace x6:=Hd x6;clear aa;go_wp2_with fail
          go_meet
          exact ⟨by rw [x6.out],by rw [<-ab.out];exact ac.out _,bu.out _⟩
      | @plus E hEne hEd=>
       obtain ⟨bn,cl,a0⟩:=Ag ag.2;obtain ⟨bz,cn,al⟩:=Ag a0;have cu:((43:UInt8).toNat:Int)=43:=rfl;have ce:(K:Int)<=998:=by omega
       have ck:(K:Int)+1<(s.size:Int):=by omega
       clear ag;obtain ⟨q,hq⟩:∃q:Nat,q=K+1+1:=⟨_,rfl⟩;have bw:(K:Int)+1+1=(q:Int):=by omega
       rw [<-hq] at al;replace hq:=Hd hq;have o:s.data.toList.drop q=E:=al;cases hEE:E with
       | nil=>exact absurd hEE hEne
       | cons c2 E2=>
        rw [hEE] at o;obtain ⟨bo,cm,ak⟩:=Ag o;have cf:48<=c2.toNat/\c2.toNat<=57:=by
         have:=hEd c2 (by rw [hEE];exact List.mem_cons_self ..);simp [isD] at this;exact this
        have y0:((q:Nat):Int)<(s.size:Int):=by omega
        have y1:¬(c2.toNat:Int)<48:=by omega
        have y2:¬(57:Int)<(c2.toNat:Int):=by omega
        have y3:((c2.toNat:Int) == 43)=false:=by simp;omega
        have y4:((c2.toNat:Int) == 45)=false:=by simp;omega
        rw [<-hEE] at o;have u:q+E.length=s.size:=by
         have h1:=congrArg List.length o;rw [List.length_drop,<-Ai] at h1;omega
        replace o:=Hd o;replace hEE:=Hd hEE;replace hEd:=Hd hEd;replace hEne:=Hd hEne;replace ak:=Hd ak;replace u:=Hd u;go_wp2_with fail
        go_loop [5,9] (fun s5 s9=>∃j:Nat,j<=E.length/\s5=.int .i64 ((q+j:Nat):Int)/\s9=.int .i64 (capE (E.take j):Int)) (fun i _=>s.size - (intOf i).toNat)
        case atStart=>exact ⟨0,Nat.zero_le _,rfl,rfl⟩
        case round=>
         obtain ⟨j,hj,rfl,rfl⟩:=hrel;obtain ⟨i,hi⟩:∃i:Nat,i=q+j:=⟨_,rfl⟩;obtain ⟨e,hee⟩:∃e:Nat,e=capE (E.take j):=⟨_,rfl⟩;have cg:e<100000:=by rw [hee];exact C9 (fun b hb=>hEd.out b (List.mem_of_mem_take hb))
         rw [<-hi,<-hee];replace hi:=Hd hi;replace hee:=Hd hee;by_cases hjl:j<E.length
         ·have y:s.data.toList.drop i=E[j] :: E.drop (j+1):=by
           rw [hi.out,<-List.drop_drop,o.out];exact List.drop_eq_getElem_cons hjl
          obtain ⟨cj,hcj⟩:∃cj,cj=E[j]:=⟨_,rfl⟩;rw [<-hcj] at y;obtain ⟨bp,bq,_⟩:=Ag y;have ch:48<=cj.toNat/\cj.toNat<=57:=by
           have:=hEd.out cj (by rw [hcj];exact List.getElem_mem hjl);simp [isD] at this;exact this
          have x0:(i:Int)<(s.size:Int):=by omega
          have x1:(48:Int)<=(cj.toNat:Int):=by omega
          have x2:(cj.toNat:Int)<=57:=by omega
          have x3:((cj.toNat:Int) == 95)=false:=by simp;omega
          have ci : ¬(cj.toNat:Int)=95:=by omega
          have ah:E.take (j+1)=E.take j++[cj]:=by rw [List.take_succ_eq_append_getElem hjl,hcj]
          have v:=Es (E.take j) cj;rw [<-ah,<-hee.out] at v;replace v:=Hd v;replace y:=Hd y;replace hcj:=Hd hcj;clear ah;by_cases hcap:e<10000
          ·have x4:(e:Int)<10000:=by omega
           have x5:((capE (E.take (j+1)):Nat):Int)=(e:Int) * 10+(cj.toNat:Int) - 48:=by
            rw [v.out,if_pos hcap];unfold dv;omega
           replace x5:=Hd x5;go_wp2_with fail
           go_round
           case rel=>exact ⟨j+1,by omega,by rw [hi.out];go_num,by rw [x5.out]⟩
           case measure=>have:=hi.out;have:=u.out;simp [intOf];omega
          ·have x4:¬(e:Int)<10000:=by omega
           have x5:((capE (E.take (j+1)):Nat):Int)=(e:Int):=by rw [v.out,if_neg hcap]
           replace x5:=Hd x5;go_wp2_with fail
           go_round
           case rel=>exact ⟨j+1,by omega,by rw [hi.out];go_num,by rw [x5.out]⟩
           case measure=>have:=hi.out;have:=u.out;simp [intOf];omega
         ·have aa:j=E.length:=by omega
          have ai:s.size=i:=by rw [hi.out,aa];exact u.out.symm
          have ab:e=capE E:=by rw [hee.out,aa,List.take_length]
          have x0:¬(i:Int)<(s.size:Int):=by omega
          have x6:(i:Int)=(s.size:Int):=by omega
          replace ai:=Hd ai;replace ab:=Hd ab;replace x6:=Hd x6;clear aa;go_wp2_with fail
          go_meet
          exact ⟨by rw [x6.out],by rw [<-ab.out];exact ac.out _,bu.out _⟩
      | @minus E hEne hEd=>
       obtain ⟨bn,cl,a0⟩:=Ag ag.2;obtain ⟨bz,cn,al⟩:=Ag a0;have cu:((45:UInt8).toNat:Int)=45:=rfl;have ce:(K:Int)<=998:=by omega
       have ck:(K:Int)+1<(s.size:Int):=by omega
       clear ag;obtain ⟨q,hq⟩:∃q:Nat,q=K+1+1:=⟨_,rfl⟩;have bw:(K:Int)+1+1=(q:Int):=by omega
       rw [<-hq] at al;replace hq:=Hd hq;have o:s.data.toList.drop q=E:=al;cases hEE:E with
       | nil=>exact absurd hEE hEne
       | cons c2 E2=>
        rw [hEE] at o;obtain ⟨bo,cm,ak⟩:=Ag o;have cf:48<=c2.toNat/\c2.toNat<=57:=by
         have:=hEd c2 (by rw [hEE];exact List.mem_cons_self ..);simp [isD] at this;exact this
        have y0:((q:Nat):Int)<(s.size:Int):=by omega
        have y1:¬(c2.toNat:Int)<48:=by omega
        have y2:¬(57:Int)<(c2.toNat:Int):=by omega
        have y3:((c2.toNat:Int) == 43)=false:=by simp;omega
        have y4:((c2.toNat:Int) == 45)=false:=by simp;omega
        rw [<-hEE] at o;have u:q+E.length=s.size:=by
         have h1:=congrArg List.length o;rw [List.length_drop,<-Ai] at h1;omega
        replace o:=Hd o;replace hEE:=Hd hEE;replace hEd:=Hd hEd;replace hEne:=Hd hEne;replace ak:=Hd ak;replace u:=Hd u;go_wp2_with fail
        go_loop [5,9] (fun s5 s9=>∃j:Nat,j<=E.length/\s5=.int .i64 ((q+j:Nat):Int)/\s9=.int .i64 (capE (E.take j):Int)) (fun i _=>s.size - (intOf i).toNat)
        case atStart=>exact ⟨0,Nat.zero_le _,rfl,rfl⟩
        case round=>
         obtain ⟨j,hj,rfl,rfl⟩:=hrel;obtain ⟨i,hi⟩:∃i:Nat,i=q+j:=⟨_,rfl⟩;obtain ⟨e,hee⟩:∃e:Nat,e=capE (E.take j):=⟨_,rfl⟩;have cg:e<100000:=by rw [hee];exact C9 (fun b hb=>hEd.out b (List.mem_of_mem_take hb))
         rw [<-hi,<-hee];replace hi:=Hd hi;replace hee:=Hd hee;by_cases hjl:j<E.length
         ·have y:s.data.toList.drop i=E[j] :: E.drop (j+1):=by
           rw [hi.out,<-List.drop_drop,o.out];exact List.drop_eq_getElem_cons hjl
          obtain ⟨cj,hcj⟩:∃cj,cj=E[j]:=⟨_,rfl⟩;rw [<-hcj] at y;obtain ⟨bp,bq,_⟩:=Ag y;have ch:48<=cj.toNat/\cj.toNat<=57:=by
           have:=hEd.out cj (by rw [hcj];exact List.getElem_mem hjl);simp [isD] at this;exact this
          have x0:(i:Int)<(s.size:Int):=by omega
          have x1:(48:Int)<=(cj.toNat:Int):=by omega
          have x2:(cj.toNat:Int)<=57:=by omega
          have x3:((cj.toNat:Int) == 95)=false:=by simp;omega
          have ci : ¬(cj.toNat:Int)=95:=by omega
          have ah:E.take (j+1)=E.take j++[cj]:=by rw [List.take_succ_eq_append_getElem hjl,hcj]
          have v:=Es (E.take j) cj;rw [<-ah,<-hee.out] at v;replace v:=Hd v;replace y:=Hd y;replace hcj:=Hd hcj;clear ah;by_cases hcap:e<10000
          ·have x4:(e:Int)<10000:=by omega
           have x5:((capE (E.take (j+1)):Nat):Int)=(e:Int) * 10+(cj.toNat:Int) - 48:=by
            rw [v.out,if_pos hcap];unfold dv;omega
           replace x5:=Hd x5;go_wp2_with fail
           go_round
           case rel=>exact ⟨j+1,by omega,by rw [hi.out];go_num,by rw [x5.out]⟩
           case measure=>have:=hi.out;have:=u.out;simp [intOf];omega
          ·have x4:¬(e:Int)<10000:=by omega
           have x5:((capE (E.take (j+1)):Nat):Int)=(e:Int):=by rw [v.out,if_neg hcap]
           replace x5:=Hd x5;go_wp2_with fail
           go_round
           case rel=>exact ⟨j+1,by omega,by rw [hi.out];go_num,by rw [x5.out]⟩
           case measure=>have:=hi.out;have:=u.out;simp [intOf];omega
         ·have aa:j=E.length:=by omega
          have ai:s.size=i:=by rw [hi.out,aa];exact u.out.symm
          have ab:e=capE E:=by rw [hee.out,aa,List.take_length]
          have x0:¬(i:Int)<(s.size:Int):=by omega
          have x6:(i:Int)=(s.size:Int):=by omega
          replace ai:=Hd ai;replace ab:=Hd ab;replace x6:=Hd x6;clear aa;go_wp2_with fail
          go_meet
          exact ⟨by rw [x6.out],by rw [<-ab.out];exact ac.out _,bu.out _⟩
     case rest=>
      obtain ⟨rfl,b0, b1⟩:=hcut
      rename World=>wv
      have bc:Dm wv b (decN d L m x) neg:=by
       rw [ba.out];exact ⟨g,by rw [ay.out];exact b0, by rw [ay.out,r.out]⟩
      replace bc:=Hd bc;replace b0 := Hd b0;replace b1 := Hd b1;go_wp2;go_ret;exact ⟨rfl,bc.out,b1.out⟩
