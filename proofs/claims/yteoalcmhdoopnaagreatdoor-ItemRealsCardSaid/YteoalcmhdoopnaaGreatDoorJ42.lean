/- internal/strconv: decimal.floatBits. -/
import Derived.Test.YteoalcmhdoopnaaGreatDoorJ44
import Derived.Test.YteoalcmhdoopnaaGreatDoorJump2
import Derived.Test.YteoalcmhdoopnaaGreatDoorJ33
namespace Go.Proofs.YteoalcmhdoopnaaGreatDoor
open Go.RowKit
structure Outs (M E1 B:Nat):Prop where
 a1:bits .and .u64 (M:Int) 4503599627370495=((M % 4503599627370496:Nat):Int)
 a2:bits .and .i64 (E1:Int) 2047=(E1:Int)
 a4:bits .or .u64 ((M % 4503599627370496:Nat):Int) ((E1 * 4503599627370496:Nat):Int)=(B:Int)
 a5:bits .or .u64 (B:Int) 9223372036854775808=((B+9223372036854775808:Nat):Int)
 e:E1<=2047
theorem outs_of {M E1:Nat} (hM:M<18446744073709551616) (hE:E1<=2047):Outs M E1 (M % 4503599627370496+E1 * 4503599627370496):=by
 refine ⟨?_,?_,?_,?_,hE⟩
 · have:=Aw (x:=M) (y:=2 ^ 52 - 1) hM (by decide)
   rw [Nat.and_two_pow_sub_one_eq_mod] at this;exact this
 · have key:∀n:Fin 2048,bits .and .i64 (n.val:Int) 2047=(n.val:Int):=by decide +kernel
   exact key ⟨E1,by omega⟩
 · have hm:M % 4503599627370496<4503599627370496:=Nat.mod_lt _ (by decide)
   have h1:=As (x:=M % 4503599627370496) (y:=E1 * 4503599627370496) (by omega) (by omega);have h2:=or_place false (c:=M % 4503599627370496) (j:=E1) hm (by omega);simp only [sgB,Bool.false_eq_true,if_false,Nat.zero_add] at h2;rw [h2] at h1;rw [h1,Nat.add_comm]
 · have hm:M % 4503599627370496<4503599627370496:=Nat.mod_lt _ (by decide)
   generalize hB:M % 4503599627370496+E1 * 4503599627370496=B;have hB9:B<9223372036854775808:=by omega
   have h1:=As (x:=B) (y:=9223372036854775808) (by omega) (by omega);have h2:=Gr true hB9;simp only [sgB,if_true] at h2;rw [Nat.or_comm,h2] at h1;rw [Nat.add_comm B];exact h1
theorem fbM_is {d:Dec} (hne:d.L≠[]) (h1:d.dp<=310) (h2:-330<=d.dp) {a b:Dec × Int} {e e2:Int} {c:Dec} {m:Nat} (ha:a=Al (mR d) d 0) (hb:b=Bh (mL a.1) a.1 a.2) (he:e=b.2 - 1)
   (hc:c=if e < -1022 then shR 2000 (-1022 - e).toNat b.1 else b.1) (he2:e2=if e < -1022 then -1022 else e) (hm:m=rndI (lsD 53 c)) :
   fbM d=if 1024<=e2 then none else if m=9007199254740992 then (if 1024<=e2+1 then none else some (4503599627370496,e2+1)) else some (m,if m / 4503599627370496 % 2=0 then -1023 else e2):=by
 unfold fbM
 rw [if_neg hne,if_neg (by omega),if_neg (by omega)]
 dsimp only
 rw [<-ha,<-hb,<-he,<-hc,<-he2,<-hm]
theorem Dm.drewN {w:World} {b:Nat} {d:Dec} {ng:Bool} (h:Dm w b d ng) (k:Nat):Dm (w.drewN k) b d ng:=by
 obtain ⟨f,h1,h2⟩:=h;exact ⟨f,h1.drewN k,h2⟩
theorem Dn.drewN {w0 w:World} {b:Nat} (h:Dn w0 w b) (k:Nat):Dn w0 (w.drewN k) b:=h.fr ((Fr.refl _ _).drewN k)
def E7 (w:World) (a:Addr):Int:=match w.cell? a with | some (.int _ v)=>v | _=>0
def muR (w:World) (b:Nat):Nat:=if 0<E7 w ⟨b,801,none⟩ then 2 * (E7 w ⟨b,801,none⟩).toNat+(if 8<=(E7 w ⟨b,0,none⟩).toNat - 48 then 1 else 0) else 0
def muL (w:World) (b:Nat):Nat:=if E7 w ⟨b,801,none⟩<=0 then 10 * (-E7 w ⟨b,801,none⟩).toNat+(10 - ((E7 w ⟨b,0,none⟩).toNat - 48)) else 0
theorem Dm.mu {w:World} {b:Nat} {d:Dec} {ng:Bool} (h:Dm w b d ng) (hg:d.Good):muR w b=mR d/\muL w b=mL d/\w.cell? ⟨b,0,none⟩=some (.int .u8 ((C3 d+48:Nat):Int))/\C3 d<=9:=by
 obtain ⟨f,hD,hrow⟩:=h;obtain ⟨c,l,e,hc⟩:=hg.head;have hcd:=hg.dig c (by rw [e];exact List.mem_cons_self ..);have hc9:48<=c.toNat/\c.toNat<=57:=by unfold isD at hcd;simpa using hcd
 have h0:f 0=c:=by
   have h1:=row_at hrow (i:=0) (by rw [e];simp);rw [h1];simp [e]
 have hh:C3 d=c.toNat - 48:=by unfold C3;rw [e];rfl
 have c1:E7 w ⟨b,801,none⟩=d.dp:=by unfold E7;rw [hD.pt]
 have hz:=hD.dig 0 (by decide);rw [h0] at hz;have c2:(E7 w ⟨b,0,none⟩).toNat=c.toNat:=by unfold E7;rw [hz];rfl
 refine ⟨?_,?_,?_,by omega⟩
 · unfold muR mR;rw [c1,c2,hh]
 · unfold muL mL;rw [c1,c2,hh]
 · rw [hz,hh,show c.toNat - 48+48=c.toNat by omega]
set_option maxRecDepth 100000 in
set_option maxHeartbeats 6400000 in
theorem fb_any {w0 w:World} {b:Nat} {d:Dec} {ng:Bool} (hw:Dn w0 w b) (h:Dm w b d ng) (hg:d.Good) (hp0:-330<=d.dp) (hp1:d.dp<=310) :
   Calls Tryz.prog 121 #[.pointer (some ⟨b,0,none⟩),.pointer (some ⟨7,0,none⟩)] w fun e w' => e=.returned (.tuple #[.int .u64 ((fbR d+sgB ng:Nat):Int),.bool (decide (fbR d=9218868437227405312))])/\Fr (fun k=>k=b) w w' := by
 obtain ⟨m1,ga,ga1,ga2,ga3,ga4,m2,gb,gb1,gb2,gb3,gb4⟩:=fb_bounds hg hp1 hp0
 obtain ⟨a,ha⟩:∃a,a=Al (mR d) d 0:=⟨_,rfl⟩
 rw [<-ha] at ga ga1 ga2 ga3 ga4 m2 gb gb1 gb2 gb3 gb4
 obtain ⟨bb,hbb⟩:∃bb,bb=Bh (mL a.1) a.1 a.2:=⟨_,rfl⟩
 rw [<-hbb] at gb gb1 gb2 gb3 gb4
 have hne:d.L≠[]:=by obtain ⟨c,l,e,_⟩:=hg.head;rw [e];simp
 have h0:=h
 obtain ⟨f,hD,hrow⟩:=h0
 have c0:=hD.nd
 have cp:=hD.pt
 have hn0:((d.L.length:Int) == 0)=false:=by rw [beq_eq_false_iff_ne];have:=hg.val.2;omega
 obtain ⟨nd,hnd⟩:∃nd,nd=d.L.length:=⟨_,rfl⟩
 rw [<-hnd] at c0 hn0
 replace hnd:=Hd hnd
 replace hw:=Hd hw
 replace h:=Hd h
 replace hg:=Hd hg
 replace ha:=Hd ha
 replace hbb:=Hd hbb
 replace ga:=Hd ga
 replace gb:=Hd gb
 replace hne:=Hd hne
 clear hD hrow
 go_enter Tryz.func121,Tryz.ntmps121
 go_wp2_with fail
 refine D3 rfl rfl ?_
 go_upto_block 0 with fail
 go_cut [6] from 8 to 60 (fun s6 wx=>s6=.int .i64 a.2/\Dm wx b a.1 ng/\Fr (fun k=>k=b) w wx)
 case first=>
   go_wp2_with fail
   go_loopw [6,8] (fun s6 _ wr=>∃(d' : Dec) (e:Int) (fu:Nat),s6=.int .i64 e/\d'.Good/\Dm wr b d' ng/\Fr (fun k=>k=b) w wr/\a=Al fu d' e/\mR d' <= fu/\0<=e/\e<=27 * ((mR d:Int) - mR d')/\-330<=d'.dp/\d'.dp<=310) (fun _ _ wr=>muR wr b)
   case atStart=>exact ⟨d,0,mR d,rfl,hg.out,h.out,Fr.refl _ _,ha.out,Nat.le_refl _,Int.le_refl _,by omega,hp0,hp1⟩
   case round=>
     obtain ⟨d', e,fu,rfl,hg', hD', hF,hS,hmf,he0,he1,hq0,hq1⟩:=hrel;obtain ⟨hmu,_,_,_⟩:=hD'.mu hg';have hcp:wr.cell? ⟨b,801,none⟩=some (.int .i64 d'.dp):=by obtain ⟨f,hx,_⟩:=hD'; exact hx.pt
     by_cases hpos:0<d'.dp
     · obtain ⟨n,hn⟩:∃n:Nat,d'.dp=n:=⟨d'.dp.toNat,by omega⟩
       have hmpos:0<mR d' := by unfold mR;rw [if_pos hpos];omega
       rcases fu with _ | fu
       · omega
       rw [Al,if_pos hpos] at hS;obtain ⟨s1,s2,s3⟩:=mR_step hg' hpos;rw [hn,Int.toNat_natCast] at hS s1 s2 s3;obtain ⟨p1,p2,_,_⟩:=Et n;obtain ⟨_,r2,_⟩:=rs_dp hg' (k:=pt n) p1 (by omega);have t1:mR (rsD (pt n) d')<=fu:=by omega
       have t2:0<=e+((pt n:Nat):Int):=by omega
       have t3:e+((pt n:Nat):Int)<=27 * ((mR d:Int) - mR (rsD (pt n) d')):=by omega
       have t4:-330<=(rsD (pt n) d').dp:=by omega
       have t5:(rsD (pt n) d').dp<=310:=by omega
       replace t1:=Hd t1;replace t2:=Hd t2;replace t3:=Hd t3;replace t4:=Hd t4;replace t5:=Hd t5;have hsh:∀q,Calls Tryz.prog 110 #[.pointer (some ⟨b,0,none⟩),.int .i64 (-(pt n:Int))] (wr.drewN q) fun x w' => x=.returned (.tuple #[])/\Dm w' b (rsD (pt n) d') ng/\Fr (fun k=>k=b) (wr.drewN q) w' := fun q=>
         shiftR_any (f:=0) (hD'.drewN q) hg' p1 (by omega) (by omega) (by omega) (by omega) (by omega)
       have hSl:=((hw.out.fr hF).at).pts;obtain ⟨pb,pc,q1,q2⟩:=hSl;rw [hn] at hcp;have hn0i:(0:Int)<(n:Int):=by omega
       have hFq:∀q,Fr (fun k=>k=b) w (wr.drewN q):=fun q=>hF.drewN q;have hmu2:∀w', Dm w' b (rsD (pt n) d') ng->muR w' b<muR wr b:=fun w' h' => by rw [(h'.mu s1).1,hmu];exact s2
       replace hmu2:=Hd hmu2;replace hFq:=Hd hFq;replace hsh:=Hd hsh;replace hD' := Hd hD';replace hF:=Hd hF;replace hg' := Hd hg';replace hS:=Hd hS;replace s1:=Hd s1;replace hmu:=Hd hmu;clear c0 cp hn0;by_cases h9:9<=n
       · have h9i:(9:Int)<=(n:Int):=by omega
         have hpt:pt n=27:=pt_big h9;rw [hpt] at p1 p2 hS s1 s2 s3 hsh hmu2 r2 t1 t2 t3 t4 t5;clear s2 s3 r2;replace hpt:=Hd hpt;clear q2;go_upto_region 13 with fail
         go_quiet (fail)
         go_wp2_with fail
         refine (hsh.out _).mono ?_;rintro x w2 ⟨rfl,h2,h3⟩;have hF2:=(hFq.out _).trans h3;replace h2:=Hd h2;replace hF2:=Hd hF2;clear h3;go_wp2_with fail
         go_round
         case rel=>exact ⟨rsD (27) d', e+(27:Nat),fu,by simp,s1.out,h2.out,hF2.out,hS.out,t1.out,t2.out,t3.out,t4.out,t5.out⟩
         case measure=>exact hmu2.out _ h2.out
       · have h9i:¬(9:Int)<=(n:Int):=by omega
         have hn9i:(n:Int)<9:=by omega
         have q3:=q2 n (by omega);obtain ⟨pn,hpn⟩:∃pn,pn=pt n:=⟨_,rfl⟩;rw [<-hpn] at p1 p2 hS s1 s2 s3 hsh hmu2 r2 q3 t1 t2 t3 t4 t5;clear s2 s3 r2;replace hpn:=Hd hpn;clear q2;go_upto_region 13 with fail
         go_quiet (fail)
         go_upto_region 15 with fail
         go_quiet (fail)
         go_wp2_with fail
         refine (hsh.out _).mono ?_;rintro x w2 ⟨rfl,h2,h3⟩;have hF2:=(hFq.out _).trans h3;replace h2:=Hd h2;replace hF2:=Hd hF2;clear h3;go_wp2_with fail
         go_round
         case rel=>exact ⟨rsD (pn) d', e+(pn:Nat),fu,by simp,s1.out,h2.out,hF2.out,hS.out,t1.out,t2.out,t3.out,t4.out,t5.out⟩
         case measure=>exact hmu2.out _ h2.out
     · have hposi:¬(0:Int)<d'.dp:=hpos
       have hSa:a=(d', e):=by rw [hS];exact scaleR_out hpos
       replace hS:=Hd hS;replace hSa:=Hd hSa;replace hD' := Hd hD';replace hF:=Hd hF;replace hg' := Hd hg';clear hmu;go_wp2_with fail
       go_meet
       exact ⟨by rw [hSa.out],by rw [hSa.out];exact hD'.out,hF.out⟩
 case rest=>
   obtain ⟨rfl,hD1,hF1⟩:=hcut
   rename World=>wy
   replace hD1:=Hd hD1;replace hF1:=Hd hF1;clear c0 cp hn0
   go_upto_block 2 with fail
   go_cut [6] from 9 to 103 (fun s6 wx=>s6=.int .i64 bb.2/\Dm wx b bb.1 ng/\Fr (fun k=>k=b) w wx)
   case first=>
     go_wp2_with fail
     go_loopw [6,9] (fun s6 _ wr=>∃(d' : Dec) (e:Int) (fu:Nat),s6=.int .i64 e/\d'.Good/\Dm wr b d' ng/\Fr (fun k=>k=b) w wr/\bb=Bh fu d' e/\mL d' <= fu/\e<=16767/\-89370+27 * (mL d' : Int)<=e/\-330<=d'.dp/\d'.dp<=0) (fun _ _ wr=>muL wr b)
     case atStart=>exact ⟨a.1,a.2,mL a.1,rfl,ga.out,hD1.out,hF1.out,hbb.out,Nat.le_refl _,by omega,by omega,by omega,by omega⟩
     case round=>
       obtain ⟨d', e,fu,rfl,hg', hD', hF,hS,hmf,he0,he1,hq0,hq1⟩:=hrel;obtain ⟨_,hmu,hc0,hh9⟩:=hD'.mu hg';have hcp:wr.cell? ⟨b,801,none⟩=some (.int .i64 d'.dp):=by obtain ⟨f,hx,_⟩:=hD'; exact hx.pt
       obtain ⟨z,hz⟩:∃z,z=d'.dp:=⟨_,rfl⟩;obtain ⟨hv,hhv⟩:∃hv,hv=C3 d' := ⟨_,rfl⟩;rw [<-hz] at hcp hq0 hq1;rw [<-hhv] at hc0 hh9;have hc0' : ((hv+48:Nat):Int)=(hv:Int)+48:=by omega
       rw [hc0'] at hc0;by_cases hlow:lowQ d'
       · obtain ⟨n,hn⟩:∃n:Nat,n=(-d'.dp).toNat:=⟨_,rfl⟩
         have hzn:-z=(n:Int):=by rw [hz,hn];omega
         have hmpos:0<mL d' := by
           unfold mL;rw [if_pos (by omega)];rcases hlow with h9 | ⟨_,h9⟩<;>omega
         rcases fu with _ | fu
         · omega
         rw [Bh,if_pos hlow] at hS;obtain ⟨s1,s2,s3,s4⟩:=mL_step hg' hlow;rw [<-hn] at hS s1 s2 s3 s4;obtain ⟨p1,p2,_,_⟩:=Et n;have t1:mL (lsD (pt n) d')<=fu:=by omega
         have t2:e - ((pt n:Nat):Int)<=16767:=by omega
         have t3:-89370+27 * (mL (lsD (pt n) d'):Int)<=e - ((pt n:Nat):Int):=by omega
         have t4:-330<=(lsD (pt n) d').dp:=by omega
         have t5:(lsD (pt n) d').dp<=0:=by omega
         replace t1:=Hd t1;replace t2:=Hd t2;replace t3:=Hd t3;replace t4:=Hd t4;replace t5:=Hd t5;have hsh:∀q,Calls Tryz.prog 110 #[.pointer (some ⟨b,0,none⟩),.int .i64 (pt n:Int)] (wr.drewN q) fun x w' => x=.returned (.tuple #[])/\Dm w' b (lsD (pt n) d') ng/\Fr (fun k=>k=b) (wr.drewN q) w' := fun q=>
           shiftL_any ((hw.out.fr hF).drewN q) (hD'.drewN q) hg' p1 (by omega) (by omega) (by omega)
         have hSl:=((hw.out.fr hF).at).pts;obtain ⟨pb,pc,q1,q2⟩:=hSl;have hFq:∀q,Fr (fun k=>k=b) w (wr.drewN q):=fun q=>hF.drewN q;have hmu2:∀w', Dm w' b (lsD (pt n) d') ng->muL w' b<muL wr b:=fun w' h' => by rw [(h'.mu s1).2.1,hmu];exact s2
         have hzc:z<0\/(z=0/\hv<5):=by
           rcases hlow with h9 | ⟨h9,h8⟩
           · left;omega
           · right;omega
         rw [<-hz] at s4;replace hmu2:=Hd hmu2;replace hFq:=Hd hFq;replace hsh:=Hd hsh;replace hD' := Hd hD';replace hF:=Hd hF;replace hg' := Hd hg';replace hS:=Hd hS;replace s1:=Hd s1;replace hmu:=Hd hmu;replace hn:=Hd hn;replace hz:=Hd hz;replace hhv:=Hd hhv;clear hlow hc0';rcases hzc with hzn0 | ⟨hz0,hh5⟩
         · by_cases h9:9<=n
           · have h9i:(9:Int)<=(n:Int):=by omega
             have hpt:pt n=27:=pt_big h9;rw [hpt] at p1 p2 hS s1 hsh hmu2 t1 t2 t3 t4 t5;clear s2 s3 s4;replace hpt:=Hd hpt;clear q2;go_upto_region 20 with fail
             go_quiet (fail)
             go_wp2_with fail
             refine (hsh.out _).mono ?_;rintro x w2 ⟨rfl,h2,h3⟩;have hF2:=(hFq.out _).trans h3;replace h2:=Hd h2;replace hF2:=Hd hF2;clear h3;go_wp2_with fail
             go_round
             case rel=>exact ⟨lsD (27) d', e - (27:Nat),fu,by simp,s1.out,h2.out,hF2.out,hS.out,t1.out,t2.out,t3.out,t4.out,t5.out⟩
             case measure=>exact hmu2.out _ h2.out
           · have h9i:¬(9:Int)<=(n:Int):=by omega
             have hn9i:(n:Int)<9:=by omega
             have q3:=q2 n (by omega);obtain ⟨pn,hpn⟩:∃pn,pn=pt n:=⟨_,rfl⟩;rw [<-hpn] at p1 p2 hS s1 hsh hmu2 q3 t1 t2 t3 t4 t5;clear s2 s3 s4;replace hpn:=Hd hpn;clear q2;go_upto_region 20 with fail
             go_quiet (fail)
             go_upto_region 22 with fail
             go_quiet (fail)
             go_wp2_with fail
             refine (hsh.out _).mono ?_;rintro x w2 ⟨rfl,h2,h3⟩;have hF2:=(hFq.out _).trans h3;replace h2:=Hd h2;replace hF2:=Hd hF2;clear h3;go_wp2_with fail
             go_round
             case rel=>exact ⟨lsD (pn) d', e - (pn:Nat),fu,by simp,s1.out,h2.out,hF2.out,hS.out,t1.out,t2.out,t3.out,t4.out,t5.out⟩
             case measure=>exact hmu2.out _ h2.out
         · subst hz0
           have hn00:n=0:=by omega
           subst hn00;have hh5i:(hv:Int)+48<53:=by omega
           have q3:=q2 0 (by omega);have q3' : wr.cell? pb=some (.int .i64 (pt 0:Int)):=q3;obtain ⟨pn,hpn⟩:∃pn,pn=pt 0:=⟨_,rfl⟩;rw [<-hpn] at p1 p2 hS s1 hsh hmu2 q3 q3' t1 t2 t3 t4 t5;clear s2 s3 s4;replace hpn:=Hd hpn;clear q2 hzn;go_upto_region 20 with fail
           go_quiet (fail)
           go_upto_region 22 with fail
           go_quiet (fail)
           go_wp2_with fail
           refine (hsh.out _).mono ?_;rintro x w2 ⟨rfl,h2,h3⟩;have hF2:=(hFq.out _).trans h3;replace h2:=Hd h2;replace hF2:=Hd hF2;clear h3;go_wp2_with fail
           go_round
           case rel=>exact ⟨lsD (pn) d', e - (pn:Nat),fu,by simp,s1.out,h2.out,hF2.out,hS.out,t1.out,t2.out,t3.out,t4.out,t5.out⟩
           case measure=>exact hmu2.out _ h2.out
       · have hSa:bb=(d', e):=by rw [hS];exact scaleL_out hlow
         have hz0:z=0:=by
           rcases Int.lt_or_eq_of_le hq1 with h9 | h9
           · exact absurd (.inl (by omega)) hlow
           · exact h9
         have hh5i:¬(hv:Int)+48<53:=by
           intro h9;exact hlow (.inr ⟨by omega,by omega⟩)
         subst hz0;replace hS:=Hd hS;replace hSa:=Hd hSa;replace hD' := Hd hD';replace hF:=Hd hF;replace hg' := Hd hg';replace hlow:=Hd hlow;replace hz:=Hd hz;replace hhv:=Hd hhv;clear hmu hc0';go_wp2_with fail
         go_meet
         exact ⟨by rw [hSa.out],by rw [hSa.out];exact hD'.out,hF.out⟩
   case rest=>
     obtain ⟨rfl,hD2,hF2⟩:=hcut
     rename World=>wz
     have o1:bits .and .u64 0 4503599627370495=0:=by decide +kernel
     have o2:bits .and .i64 2047 2047=2047:=by decide +kernel
     have o3:bits .or .u64 0 9218868437227405312=9218868437227405312:=by decide +kernel
     have o4:bits .or .u64 9218868437227405312 9223372036854775808=18442240474082181120:=by decide +kernel
     obtain ⟨e,he⟩:∃e,e=bb.2 - 1:=⟨_,rfl⟩;obtain ⟨c,hc⟩:∃c,c=if e < -1022 then shR 2000 (-1022 - e).toNat bb.1 else bb.1:=⟨_,rfl⟩;obtain ⟨e2,he2⟩:∃e2,e2=if e < -1022 then -1022 else e:=⟨_,rfl⟩;obtain ⟨m,hm⟩:∃m,m=rndI (lsD 53 c):=⟨_,rfl⟩;have hfb:=fbM_is hne.out hp1 hp0 ha.out hbb.out he hc he2 hm;have hcG:c.Good/\c.dp<=0/\-50000<=c.dp:=by
       rw [hc];split
       · obtain ⟨x1,x2,x3⟩:=shR_good 2000 (-1022 - e).toNat bb.1 gb.out (by omega) (by omega)
         exact ⟨x1,by omega,by omega⟩
       · exact ⟨gb.out,gb1,by omega⟩
     have he2b:-1022<=e2/\e2<=16767:=by rw [he2];split<;>omega
     have heb:-89371<=e/\e<=16766:=by omega
     have hee:bb.2 - 1=e:=he.symm;have hSl:=(hw.out.fr hF2).at;have i0:=hSl.i0;have i1:=hSl.i1;have i2:=hSl.i2;have hcut2:∀W,Dm W b bb.1 ng->Fr (fun k=>k=b) w W->¬e < -1022->Dm W b c ng:=fun W h1 _ h2=>by rw [hc,if_neg h2];exact h1
     have hshc:∀n:Nat,e < -1022->(n:Int)=-1022 - e->Calls Tryz.prog 110 #[.pointer (some ⟨b,0,none⟩),.int .i64 (-(n:Int))] wz fun x w' => x=.returned (.tuple #[])/\Dm w' b c ng/\Fr (fun k=>k=b) wz w' := fun n h1 h2=>by
       have e3:(-1022 - e).toNat=n:=by omega
       rw [hc,if_pos h1,e3];exact shiftR_any hD2 gb.out (by omega) (by omega) (by omega) (by omega) (by omega) (by decide)
     have he2p:e < -1022->e2=-1022:=fun h=>by rw [he2,if_pos h]
     have he2n:¬e < -1022->e2=e:=fun h=>by rw [he2,if_neg h]
     replace hfb:=Hd hfb;replace he:=Hd he;replace hc:=Hd hc;replace he2:=Hd he2;replace hm:=Hd hm;replace hcG:=Hd hcG;replace hshc:=Hd hshc;replace hcut2:=Hd hcut2;replace he2p:=Hd he2p;replace he2n:=Hd he2n;replace hSl:=Hd hSl;replace hD2:=Hd hD2;replace hF2:=Hd hF2;clear hD1 hF1
     go_upto_if 111 with fail
     go_cut [6,10] from 104 to 125 (fun s6 _ wx=>s6=.int .i64 e2/\Dm wx b c ng/\Fr (fun k=>k=b) w wx)
     case first=>
       by_cases hlt:e < -1022
       · obtain ⟨n,hn⟩:∃n:Nat,(n:Int)=-1022 - e:=⟨(-1022 - e).toNat,by omega⟩
         have hn2:-1022 - e=(n:Int):=hn.symm;have hx:=hshc.out n hlt hn;have hen:e+(n:Int)=-1022:=by omega
         have he2' := he2p.out hlt;replace hx:=Hd hx;replace hn:=Hd hn;replace he2' := Hd he2';go_wp2_with fail
         refine hx.out.mono ?_;rintro x w2 ⟨rfl,h2,h3⟩;have hF3:=hF2.out.trans h3;replace h2:=Hd h2;replace hF3:=Hd hF3;clear h3;go_wp2_with fail
         go_meet
         exact ⟨by rw [he2'.out],h2.out,hF3.out⟩
       · have he2' := he2n.out hlt
         have hDc:=hcut2.out _ hD2.out hF2.out hlt;replace he2' := Hd he2';replace hDc:=Hd hDc;go_wp2_with fail
         go_meet
         exact ⟨by rw [he2'.out],hDc.out,hF2.out⟩
     case rest=>
       clear i0 i1 i2 hSl;obtain ⟨rfl,hDc,hFc⟩:=hcut
       rename World=>wt
       have hSl:=(hw.out.fr hFc).at;have i0:=hSl.i0;have i1:=hSl.i1;have i2:=hSl.i2;obtain ⟨E,hE⟩:∃E:Nat,e2+1023=(E:Int):=⟨(e2+1023).toNat,by omega⟩;have hE2:e2 - (-1023)=(E:Int):=by omega
       have hsg:wt.cell? ⟨b,802,none⟩=some (.bool ng):=by obtain ⟨f,hx,_⟩:=hDc;exact hx.sg
       by_cases hov:1024<=e2
       · have hInf:fbR d=9218868437227405312:=by
           have:=hfb.out;rw [if_pos hov] at this;unfold fbR;rw [this]
         have hEi:(2047:Int)<=(E:Int):=by omega
         have hFF:=hFc;replace hInf:=Hd hInf;replace hFF:=Hd hFF;replace hDc:=Hd hDc;replace hFc:=Hd hFc;replace hSl:=Hd hSl;clear hov;go_upto_region 30 with fail
         go_quiet (fail)
         go_wp2_with fail
         go_step3
         refine Or.inr ⟨rfl,?_⟩;show Code.wp _ _ _ _ _;go_upto_region 40 with fail
         go_quiet (fail)
         go_wp2_with fail
         go_step3
         go_upto_region 43 with fail
         go_quiet (fail)
         cases ng
         · go_wp2_with fail
           rw [Exit.noGoto_ret];refine bodyPost_ret (v:=.tuple #[.int .u64 9218868437227405312,.bool true]) (by simp [results,Tryz.results121,go_sem]) rfl ⟨(by rw [hInf.out];rfl),?_⟩;repeat (first | exact hFF.out | refine Fr.drewN ?_ _)
         · go_upto_region 45 with fail
           go_quiet (fail)
           go_wp2_with fail
           rw [Exit.noGoto_ret];refine bodyPost_ret (v:=.tuple #[.int .u64 18442240474082181120,.bool true]) (by simp [results,Tryz.results121,go_sem]) rfl ⟨(by rw [hInf.out];rfl),?_⟩;repeat (first | exact hFF.out | refine Fr.drewN ?_ _)
       · have hfb2:=hfb.out
         rw [if_neg hov] at hfb2;replace hfb2:=Hd hfb2;have hEi:¬(2047:Int)<=(E:Int):=by omega
         have hsh:∀q,Calls Tryz.prog 110 #[.pointer (some ⟨b,0,none⟩),.int .i64 53] (wt.drewN q) fun x w' => x=.returned (.tuple #[])/\Dm w' b (lsD 53 c) ng/\Fr (fun k=>k=b) (wt.drewN q) w' := fun q=>
           shiftL_any (k:=53) ((hw.out.fr hFc).drewN q) (hDc.drewN q) hcG.out.1 (by decide) (by decide) (by have:=hcG.out.2;omega) (by have:=hcG.out.2;omega)
         obtain ⟨g1,g2,_,_⟩:=ls_good hcG.out.1 53;have g3:=ls_len hcG.out.1 53;rw [cheat53] at g3;have hc2:=hcG.out.2;have hld:-1000000<=(lsD 53 c).dp/\(lsD 53 c).dp<=16:=by
           generalize (if An c.L (Lib.decDigits (5 ^ 53))=true then 1 else 0)=z at g3;rw [g2];omega
         have hrd:∀W,Dm W b (lsD 53 c) ng->Calls Tryz.prog 152 #[.pointer (some ⟨b,0,none⟩)] W fun x w' => x=.returned (.int .u64 (m:Int))/\w' = W:=fun W h=>by
           rw [hm.out];exact rounded_any h g1 hld.1 hld.2
         have hm9:m<=10000000000000000:=by rw [hm.out];exact rnd_lt g1 hld.2
         have hFq:∀q,Fr (fun k=>k=b) w (wt.drewN q):=fun q=>hFc.drewN q;have hnofl:=(fb_lt d (.inr hg.out)).2;have hE9:1<=E/\E<=2046:=by omega
         have he2E:e2=(E:Int) - 1023:=by omega
         replace he2E:=Hd he2E;replace hnofl:=Hd hnofl;replace hFq:=Hd hFq;replace hrd:=Hd hrd;replace hsh:=Hd hsh;replace hDc:=Hd hDc;replace hFc:=Hd hFc;replace hSl:=Hd hSl;clear g1 g2 g3 hc2 hld;go_upto_region 30 with fail
         go_quiet (fail)
         go_wp2_with fail
         refine (hsh.out _).mono ?_;rintro x w3 ⟨rfl,h3,h4⟩;clear i0 i1 i2 hsg;have hFF:=(hFq.out _).trans h4;have hSl3:=(hw.out.fr hFF).at;have i0:=hSl3.i0;have i1:=hSl3.i1;have i2:=hSl3.i2;have hsg:w3.cell? ⟨b,802,none⟩=some (.bool ng):=by obtain ⟨f,hx,_⟩:=h3;exact hx.sg
         have hr3:=hrd.out w3 h3;replace hr3:=Hd hr3;replace hFF:=Hd hFF;replace hSl3:=Hd hSl3;replace h3:=Hd h3;clear h4;go_wp2_with fail
         refine hr3.out.mono ?_;rintro x w4 ⟨rfl,hww⟩;obtain rfl:=hww.symm;clear hww;by_cases hm53:m=9007199254740992
         · have hfb3:=hfb2.out
           rw [if_pos hm53] at hfb3;have hmi:(m:Int)=9007199254740992:=by omega
           by_cases hov2:1024<=e2+1
           · have hInf:fbR d=9218868437227405312:=by
               rw [if_pos hov2] at hfb3;unfold fbR;rw [hfb3]
             have hE3:e2+1+1023=2047:=by have:=he2E.out;omega
             have hE4:e2+1 - (-1023)=2047:=by omega
             replace hInf:=Hd hInf;replace hfb3:=Hd hfb3;replace hm53:=Hd hm53;clear hov2 hE hE2;go_upto_region 36 with fail
             go_quiet (fail)
             go_wp2_with fail
             go_step3
             refine Or.inr ⟨rfl,?_⟩;show Code.wp _ _ _ _ _;go_upto_region 40 with fail
             go_quiet (fail)
             go_wp2_with fail
             go_step3
             go_upto_region 43 with fail
             go_quiet (fail)
             cases ng
             · go_wp2_with fail
               rw [Exit.noGoto_ret];refine bodyPost_ret (v:=.tuple #[.int .u64 9218868437227405312,.bool true]) (by simp [results,Tryz.results121,go_sem]) rfl ⟨(by rw [hInf.out];rfl),?_⟩;repeat (first | exact hFF.out | refine Fr.drewN ?_ _)
             · go_upto_region 45 with fail
               go_quiet (fail)
               go_wp2_with fail
               rw [Exit.noGoto_ret];refine bodyPost_ret (v:=.tuple #[.int .u64 18442240474082181120,.bool true]) (by simp [results,Tryz.results121,go_sem]) rfl ⟨(by rw [hInf.out];rfl),?_⟩;repeat (first | exact hFF.out | refine Fr.drewN ?_ _)
           · rw [if_neg hov2] at hfb3
             obtain ⟨E1,hE1⟩:∃E1:Nat,E1=E+1:=⟨_,rfl⟩;have hE3:e2+1+1023=(E1:Int):=by omega
             have hE4:e2+1 - (-1023)=(E1:Int):=by omega
             have hE5:¬(2047:Int)<=(E1:Int):=by have:=he2E.out;omega
             have hE6:E1<=2047:=by omega
             have hbit:bits .and .u64 4503599627370496 4503599627370496=4503599627370496:=by decide +kernel
             have hcl:bits .and .u64 4503599627370496 4503599627370495=0:=by decide +kernel
             have hEn:(e2+1+1023).toNat=E1:=by omega
             have hO:=outs_of (M:=4503599627370496) (E1:=E1) (by decide) hE6;have hfb4:fbM d=some (4503599627370496,e2+1):=hfb3;obtain ⟨B,hB⟩:∃B,B=E1 * 4503599627370496:=⟨_,rfl⟩;have hfr:fbR d=B:=by
               unfold fbR;rw [hfb4];dsimp only;rw [hEn,hB];simp
             have hni:fbR d≠9218868437227405312:=fun h=>by
               have:=hnofl.out.2 h;rw [hfb4] at this;cases this
             have a2:=hO.a2;have a4:=hO.a4;have a5:=hO.a5;have e0:4503599627370496 % 4503599627370496=0:=by decide
             rw [e0,Nat.zero_add,<-hB] at a4 a5;have hxi:(E1:Int) * 4503599627370496=(B:Int):=by rw [hB];simp
             have hx9:B<=9223372036854775808:=by rw [hB];omega
             obtain ⟨B2,hB2⟩:∃B2,B2=B+9223372036854775808:=⟨_,rfl⟩;rw [<-hB2] at a5;have hres0:Ending.returned (.tuple #[.int .u64 (B:Int),.bool false])=Ending.returned (.tuple #[.int .u64 ((fbR d+sgB false:Nat):Int),.bool (decide (fbR d=9218868437227405312))]):=by
               rw [decide_eq_false hni,hfr];rfl
             have hres1:Ending.returned (.tuple #[.int .u64 (B2:Int),.bool false])=Ending.returned (.tuple #[.int .u64 ((fbR d+sgB true:Nat):Int),.bool (decide (fbR d=9218868437227405312))]):=by
               rw [decide_eq_false hni,hfr,hB2];rfl
             have a4' : bits .or .u64 0 (B:Int)=(B:Int):=a4;clear a4 hO e0;replace hres0:=Hd hres0;replace hres1:=Hd hres1;replace hB:=Hd hB;replace hB2:=Hd hB2;replace hfr:=Hd hfr;replace hni:=Hd hni;replace hfb3:=Hd hfb3;replace hfb4:=Hd hfb4;replace hEn:=Hd hEn;replace hE1:=Hd hE1;replace hm53:=Hd hm53;clear hov2 hE hE2;go_upto_region 36 with fail
             go_quiet (fail)
             go_wp2_with fail
             go_step3
             refine Or.inl ⟨rfl,?_⟩;show Code.wp _ _ _ _ _;go_upto_region 43 with fail
             go_quiet (fail)
             cases ng
             · go_wp2_with fail
               rw [Exit.noGoto_ret];refine bodyPost_ret (v:=.tuple #[.int .u64 (B:Int),.bool false]) (by simp [results,Tryz.results121,go_sem]) rfl ⟨hres0.out,?_⟩;repeat (first | exact hFF.out | refine Fr.drewN ?_ _)
             · go_upto_region 45 with fail
               go_quiet (fail)
               go_wp2_with fail
               rw [Exit.noGoto_ret];refine bodyPost_ret (v:=.tuple #[.int .u64 (B2:Int),.bool false]) (by simp [results,Tryz.results121,go_sem]) rfl ⟨hres1.out,?_⟩;repeat (first | exact hFF.out | refine Fr.drewN ?_ _)
         · have hfb3:=hfb2.out
           rw [if_neg hm53] at hfb3;have hmne:((m:Int) == 9007199254740992)=false:=by rw [beq_eq_false_iff_ne];omega
           have hand:bits .and .u64 (m:Int) 4503599627370496=((m / 4503599627370496 % 2 * 4503599627370496:Nat):Int):=by
             have h1:=Aw (x:=m) (y:=4503599627370496) (by omega) (by omega);rw [and52 (x:=m) (q:=m / 4503599627370496) (c:=m % 4503599627370496) (by omega) (Nat.mod_lt _ (by decide))] at h1;exact h1
           by_cases hq:m / 4503599627370496 % 2=0
           · rw [if_pos hq] at hfb3
             rw [hq,Nat.zero_mul] at hand;have hand' : bits .and .u64 (m:Int) 4503599627370496=0:=hand;obtain ⟨E0,hE0⟩:∃E0:Nat,E0=0:=⟨_,rfl⟩;have hEn:((-1023:Int)+1023).toNat=E0:=by rw [hE0];rfl
             have hE0b:E0<=2047:=by omega
             clear hand;have hO:=outs_of (M:=m) (E1:=E0) (by omega) (by omega);obtain ⟨B,hB⟩:∃B,B=m % 4503599627370496+E0 * 4503599627370496:=⟨_,rfl⟩;have hfr:fbR d=B:=by
               unfold fbR;rw [hfb3];dsimp only;rw [hEn,hB]
             have hni:fbR d≠9218868437227405312:=fun h=>by
               have:=hnofl.out.2 h;rw [hfb3] at this;cases this
             rw [<-hB] at hO;have a1:=hO.a1;have a2:=hO.a2;have a4:=hO.a4;have a5:=hO.a5;obtain ⟨m2,hm2⟩:∃m2,m2=m % 4503599627370496:=⟨_,rfl⟩;obtain ⟨x2,hx2⟩:∃x2,x2=E0 * 4503599627370496:=⟨_,rfl⟩;rw [<-hm2] at a1 a4;rw [<-hx2] at a4;have hxi:((E0:Nat):Int) * 4503599627370496=(x2:Int):=by rw [hx2];simp
             have hx9:x2<=9223372036854775808:=by rw [hx2];omega
             obtain ⟨B2,hB2⟩:∃B2,B2=B+9223372036854775808:=⟨_,rfl⟩;rw [<-hB2] at a5;have hres0:Ending.returned (.tuple #[.int .u64 (B:Int),.bool false])=Ending.returned (.tuple #[.int .u64 ((fbR d+sgB false:Nat):Int),.bool (decide (fbR d=9218868437227405312))]):=by
               rw [decide_eq_false hni,hfr];rfl
             have hres1:Ending.returned (.tuple #[.int .u64 (B2:Int),.bool false])=Ending.returned (.tuple #[.int .u64 ((fbR d+sgB true:Nat):Int),.bool (decide (fbR d=9218868437227405312))]):=by
               rw [decide_eq_false hni,hfr,hB2];rfl
             clear hO;replace hres0:=Hd hres0;replace hres1:=Hd hres1;replace hB:=Hd hB;replace hB2:=Hd hB2;replace hm2:=Hd hm2;replace hx2:=Hd hx2;replace hfr:=Hd hfr;replace hni:=Hd hni;replace hfb3:=Hd hfb3;replace hEn:=Hd hEn;have a2' : bits .and .i64 0 2047=0:=by decide +kernel
             have hx0:(x2:Int)=0:=by have h9:=hx2.out;rw [hE0,Nat.zero_mul] at h9;rw [h9];decide
             rw [hx0] at a4;clear a2 hxi hE hE2 hEn;replace hE0:=Hd hE0;replace hx0:=Hd hx0;replace hq:=Hd hq;go_wp2_with fail
             go_step3
             refine Or.inl ⟨rfl,?_⟩;show Code.wp _ _ _ _ _;go_upto_region 43 with fail
             go_quiet (fail)
             cases ng
             · go_wp2_with fail
               rw [Exit.noGoto_ret];refine bodyPost_ret (v:=.tuple #[.int .u64 (B:Int),.bool false]) (by simp [results,Tryz.results121,go_sem]) rfl ⟨hres0.out,?_⟩;repeat (first | exact hFF.out | refine Fr.drewN ?_ _)
             · go_upto_region 45 with fail
               go_quiet (fail)
               go_wp2_with fail
               rw [Exit.noGoto_ret];refine bodyPost_ret (v:=.tuple #[.int .u64 (B2:Int),.bool false]) (by simp [results,Tryz.results121,go_sem]) rfl ⟨hres1.out,?_⟩;repeat (first | exact hFF.out | refine Fr.drewN ?_ _)
           · rw [if_neg hq] at hfb3
             have hq1:m / 4503599627370496 % 2=1:=by omega
             rw [hq1,Nat.one_mul] at hand;have hand' : bits .and .u64 (m:Int) 4503599627370496=4503599627370496:=hand;have hEn:(e2+1023).toNat=E:=by omega
             clear hand;have hO:=outs_of (M:=m) (E1:=E) (by omega) (by omega);obtain ⟨B,hB⟩:∃B,B=m % 4503599627370496+E * 4503599627370496:=⟨_,rfl⟩;have hfr:fbR d=B:=by
               unfold fbR;rw [hfb3];dsimp only;rw [hEn,hB]
             have hni:fbR d≠9218868437227405312:=fun h=>by
               have:=hnofl.out.2 h;rw [hfb3] at this;cases this
             rw [<-hB] at hO;have a1:=hO.a1;have a2:=hO.a2;have a4:=hO.a4;have a5:=hO.a5;obtain ⟨m2,hm2⟩:∃m2,m2=m % 4503599627370496:=⟨_,rfl⟩;obtain ⟨x2,hx2⟩:∃x2,x2=E * 4503599627370496:=⟨_,rfl⟩;rw [<-hm2] at a1 a4;rw [<-hx2] at a4;have hxi:((E:Nat):Int) * 4503599627370496=(x2:Int):=by rw [hx2];simp
             have hx9:x2<=9223372036854775808:=by rw [hx2];omega
             obtain ⟨B2,hB2⟩:∃B2,B2=B+9223372036854775808:=⟨_,rfl⟩;rw [<-hB2] at a5;have hres0:Ending.returned (.tuple #[.int .u64 (B:Int),.bool false])=Ending.returned (.tuple #[.int .u64 ((fbR d+sgB false:Nat):Int),.bool (decide (fbR d=9218868437227405312))]):=by
               rw [decide_eq_false hni,hfr];rfl
             have hres1:Ending.returned (.tuple #[.int .u64 (B2:Int),.bool false])=Ending.returned (.tuple #[.int .u64 ((fbR d+sgB true:Nat):Int),.bool (decide (fbR d=9218868437227405312))]):=by
               rw [decide_eq_false hni,hfr,hB2];rfl
             clear hO;replace hres0:=Hd hres0;replace hres1:=Hd hres1;replace hB:=Hd hB;replace hB2:=Hd hB2;replace hm2:=Hd hm2;replace hx2:=Hd hx2;replace hfr:=Hd hfr;replace hni:=Hd hni;replace hfb3:=Hd hfb3;replace hEn:=Hd hEn;replace hq:=Hd hq;replace hq1:=Hd hq1;go_wp2_with fail
             go_step3
             refine Or.inl ⟨rfl,?_⟩;show Code.wp _ _ _ _ _;go_upto_region 43 with fail
             go_quiet (fail)
             cases ng
             · go_wp2_with fail
               rw [Exit.noGoto_ret];refine bodyPost_ret (v:=.tuple #[.int .u64 (B:Int),.bool false]) (by simp [results,Tryz.results121,go_sem]) rfl ⟨hres0.out,?_⟩;repeat (first | exact hFF.out | refine Fr.drewN ?_ _)
             · go_upto_region 45 with fail
               go_quiet (fail)
               go_wp2_with fail
               rw [Exit.noGoto_ret];refine bodyPost_ret (v:=.tuple #[.int .u64 (B2:Int),.bool false]) (by simp [results,Tryz.results121,go_sem]) rfl ⟨hres1.out,?_⟩;repeat (first | exact hFF.out | refine Fr.drewN ?_ _)
end Go.Proofs.YteoalcmhdoopnaaGreatDoor
