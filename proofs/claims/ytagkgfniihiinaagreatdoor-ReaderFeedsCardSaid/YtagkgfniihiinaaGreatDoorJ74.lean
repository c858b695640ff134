/- internal/strconv: decimal.floatBits. -/
import Derived.Test.YtagkgfniihiinaaGreatDoorJ75
import Derived.Test.YtagkgfniihiinaaGreatDoorJump2
import Derived.Test.YtagkgfniihiinaaGreatDoorJ85
import Derived.Test.YtagkgfniihiinaaGreatDoorReadF
set_option linter.all false
namespace Go.Proofs.YtagkgfniihiinaaGreatDoor
open Go.RowKit
structure Outs (M E1 B:Nat):Prop where
 a1:bits .and .u64 (M:Int) 4503599627370495=((M % 4503599627370496:Nat):Int)
 a2:bits .and .i64 (E1:Int) 2047=(E1:Int)
 a4:bits .or .u64 ((M % 4503599627370496:Nat):Int) ((E1 * 4503599627370496:Nat):Int)=(B:Int)
 a5:bits .or .u64 (B:Int) 9223372036854775808=((B+9223372036854775808:Nat):Int)
 e:E1<=2047
theorem outs_of {M E1:Nat} (hM:M<18446744073709551616) (hE:E1<=2047):Outs M E1 (M % 4503599627370496+E1 * 4503599627370496):=by
 refine ⟨?_,?_,?_,?_,hE⟩
 · have:=Ce (x:=M) (y:=2 ^ 52 - 1) hM (by decide)
   rw [Nat.and_two_pow_sub_one_eq_mod] at this;exact this
 · have key:∀n:Fin 2048,bits .and .i64 (n.val:Int) 2047=(n.val:Int):=by decide +kernel
   exact key ⟨E1,by omega⟩
 · have hm:M % 4503599627370496<4503599627370496:=Nat.mod_lt _ (by decide)
   have h1:=Bm (x:=M % 4503599627370496) (y:=E1 * 4503599627370496) (by omega) (by omega);have h2:=or_place false (c:=M % 4503599627370496) (j:=E1) hm (by omega);simp only [sgB,Bool.false_eq_true,if_false,Nat.zero_add] at h2;rw [h2] at h1;rw [h1,Nat.add_comm]
 · have hm:M % 4503599627370496<4503599627370496:=Nat.mod_lt _ (by decide)
   generalize hB:M % 4503599627370496+E1 * 4503599627370496=B;have hB9:B<9223372036854775808:=by omega
   have h1:=Bm (x:=B) (y:=9223372036854775808) (by omega) (by omega);have h2:=sgB_or true hB9;simp only [sgB,if_true] at h2;rw [Nat.or_comm,h2] at h1;rw [Nat.add_comm B];exact h1
theorem fbM_is {d:Dec} (hne:d.L≠[]) (h1:d.dp<=310) (h2:-330<=d.dp) {a b:Dec × Int} {e e2:Int} {c:Dec} {m:Nat} (ha:a=Ay (mR d) d 0) (hb:b=Br (mL a.1) a.1 a.2) (he:e=b.2 - 1)
   (hc:c=if e < -1022 then shR 2000 (-1022 - e).toNat b.1 else b.1) (he2:e2=if e < -1022 then -1022 else e) (hm:m=rndI (lsD 53 c)) :
   fbM d=if 1024<=e2 then none else if m=9007199254740992 then (if 1024<=e2+1 then none else some (4503599627370496,e2+1)) else some (m,if m / 4503599627370496 % 2=0 then -1023 else e2):=by
 unfold fbM
 rw [if_neg hne,if_neg (by omega),if_neg (by omega)]
 dsimp only
 rw [<-ha,<-hb,<-he,<-hc,<-he2,<-hm]
theorem Dm.drewN {w:World} {b:Nat} {d:Dec} {ng:Bool} (h:Dm w b d ng) (k:Nat):Dm (w.drewN k) b d ng:=by
 obtain ⟨f,h1,h2⟩:=h;exact ⟨f,h1.drewN k,h2⟩
theorem Dn.drewN {w0 w:World} {b:Nat} (h:Dn w0 w b) (k:Nat):Dn w0 (w.drewN k) b:=h.fr ((Fr.refl _ _).drewN k)
def F0 (w:World) (a:Addr):Int:=match w.cell? a with | some (.int _ v)=>v | _=>0
def muR (w:World) (b:Nat):Nat:=if 0<F0 w ⟨b,801,none⟩ then 2 * (F0 w ⟨b,801,none⟩).toNat+(if 8<=(F0 w ⟨b,0,none⟩).toNat - 48 then 1 else 0) else 0
def muL (w:World) (b:Nat):Nat:=if F0 w ⟨b,801,none⟩<=0 then 10 * (-F0 w ⟨b,801,none⟩).toNat+(10 - ((F0 w ⟨b,0,none⟩).toNat - 48)) else 0
theorem Dm.mu {w:World} {b:Nat} {d:Dec} {ng:Bool} (h:Dm w b d ng) (hg:d.Good):muR w b=mR d/\muL w b=mL d/\w.cell? ⟨b,0,none⟩=some (.int .u8 ((De d+48:Nat):Int))/\De d<=9:=by
 obtain ⟨f,hD,hrow⟩:=h;obtain ⟨c,l,e,hc⟩:=hg.head;have hcd:=hg.dig c (by rw [e];exact List.mem_cons_self ..);have hc9:48<=c.toNat/\c.toNat<=57:=by unfold isD at hcd;simpa using hcd
 have h0:f 0=c:=by
   have h1:=row_at hrow (i:=0) (by rw [e];simp);rw [h1];simp [e]
 have hh:De d=c.toNat - 48:=by unfold De;rw [e];rfl
 have c1:F0 w ⟨b,801,none⟩=d.dp:=by unfold F0;rw [hD.pt]
 have hz:=hD.dig 0 (by decide);rw [h0] at hz;have c2:(F0 w ⟨b,0,none⟩).toNat=c.toNat:=by unfold F0;rw [hz];rfl
 refine ⟨?_,?_,?_,by omega⟩
 · unfold muR mR;rw [c1,c2,hh]
 · unfold muL mL;rw [c1,c2,hh]
 · rw [hz,hh,show c.toNat - 48+48=c.toNat by omega]
set_option maxRecDepth 100000 in
set_option maxHeartbeats 6400000 in
theorem fb_any {w0 w:World} {b:Nat} {d:Dec} {ng:Bool} (hw:Dn w0 w b) (h:Dm w b d ng) (hg:d.Good) (hp0:-330<=d.dp) (hp1:d.dp<=310) :
   Calls Tryz.prog 209 #[.pointer (some ⟨b,0,none⟩),.pointer (some ⟨7,0,none⟩)] w fun e w' => e=.returned (.tuple #[.int .u64 ((fbR d+sgB ng:Nat):Int),.bool (decide (fbR d=9218868437227405312))])/\Fr (fun k=>k=b) w w' := by
 obtain ⟨m1,ga,ga1,ga2,ga3,ga4,m2,gb,gb1,gb2,gb3,gb4⟩:=fb_bounds hg hp1 hp0
 obtain ⟨a,ha⟩:∃a,a=Ay (mR d) d 0:=⟨_,rfl⟩
 rw [<-ha] at ga ga1 ga2 ga3 ga4 m2 gb gb1 gb2 gb3 gb4
 obtain ⟨bb,hbb⟩:∃bb,bb=Br (mL a.1) a.1 a.2:=⟨_,rfl⟩
 rw [<-hbb] at gb gb1 gb2 gb3 gb4
 have hne:d.L≠[]:=by obtain ⟨c,l,e,_⟩:=hg.head;rw [e];simp
 have h0:=h
 obtain ⟨f,hD,hrow⟩:=h0
 have c0:=hD.nd
 have cp:=hD.pt
 have hn0:((d.L.length:Int) == 0)=false:=by rw [beq_eq_false_iff_ne];have:=hg.val.2;omega
 obtain ⟨nd,hnd⟩:∃nd,nd=d.L.length:=⟨_,rfl⟩
 rw [<-hnd] at c0 hn0
 replace hnd:=Hd hnd
 replace hw:=Hd hw
 replace h:=Hd h
 replace hg:=Hd hg
 replace ha:=Hd ha
 replace hbb:=Hd hbb
 replace ga:=Hd ga
 replace gb:=Hd gb
 replace hne:=Hd hne
 clear hD hrow
 go_enter Tryz.func209,Tryz.ntmps209
 go_wp2_with fail
 refine Em rfl rfl ?_
 go_upto_block 0 with fail
 go_cut [6] from 8 to 60 (fun s6 wx=>s6=.int .i64 a.2/\Dm wx b a.1 ng/\Fr (fun k=>k=b) w wx)
 case first=>
   go_wp2_with fail
   go_loopw [6,8] (fun s6 _ wr=>∃(d' : Dec) (e:Int) (fu:Nat),s6=.int .i64 e/\d'.Good/\Dm wr b d' ng/\Fr (fun k=>k=b) w wr/\a=Ay fu d' e/\mR d' <= fu/\0<=e/\e<=27 * ((mR d:Int) - mR d')/\-330<=d'.dp/\d'.dp<=310) (fun _ _ wr=>muR wr b)
   case atStart=>exact ⟨d,0,mR d,rfl,hg.out,h.out,Fr.refl _ _,ha.out,Nat.le_refl _,Int.le_refl _,by omega,hp0,hp1⟩
   case round=>
     obtain ⟨d', e,fu,rfl,hg', hD', hF,hS,hmf,he0,he1,hq0,hq1⟩:=hrel;obtain ⟨hmu,_,_,_⟩:=hD'.mu hg';have hcp:wr.cell? ⟨b,801,none⟩=some (.int .i64 d'.dp):=by obtain ⟨f,hx,_⟩:=hD'; exact hx.pt
     by_cases hpos:0<d'.dp
     · obtain ⟨n,hn⟩:∃n:Nat,d'.dp=n:=⟨d'.dp.toNat,by omega⟩
       have hmpos:0<mR d' := by unfold mR;rw [if_pos hpos];omega
       rcases fu with _ | fu
       · omega
       rw [Ay,if_pos hpos] at hS;obtain ⟨s1,s2,s3⟩:=mR_step hg' hpos;rw [hn,Int.toNat_natCast] at hS s1 s2 s3;obtain ⟨p1,p2,_,_⟩:=Fj n;obtain ⟨_,r2,_⟩:=rs_dp hg' (k:=pt n) p1 (by omega);have t1:mR (rsD (pt n) d')<=fu:=by omega
       have t2:0<=e+((pt n:Nat):Int):=by omega
       have t3:e+((pt n:Nat):Int)<=27 * ((mR d:Int) - mR (rsD (pt n) d')):=by omega
       have t4:-330<=(rsD (pt n) d').dp:=by omega
       have t5:(rsD (pt n) d').dp<=310:=by omega
       replace t1:=Hd t1;replace t2:=Hd t2;replace t3:=Hd t3;replace t4:=Hd t4;replace t5:=Hd t5;have hsh:∀q,Calls Tryz.prog 147 #[.pointer (some ⟨b,0,none⟩),.int .i64 (-(pt n:Int))] (wr.drewN q) fun x w' => x=.returned (.tuple #[])/\Dm w' b (rsD (pt n) d') ng/\Fr (fun k=>k=b) (wr.drewN q) w' := fun q=>
         shiftR_any (f:=0) (hD'.drewN q) hg' p1 (by omega) (by omega) (by omega) (by omega) (by omega)
       have hSl:=((hw.out.fr hF).at).pts;obtain ⟨pb,pc,q1,q2⟩:=hSl;rw [hn] at hcp;have hn0i:(0:Int)<(n:Int):=by omega
       have hFq:∀q,Fr (fun k=>k=b) w (wr.drewN q):=fun q=>hF.drewN q;have hmu2:∀w', Dm w' b (rsD (pt n) d') ng->muR w' b<muR wr b:=fun w' h' => by rw [(h'.mu s1).1,hmu];exact s2
       replace hmu2:=Hd hmu2;replace hFq:=Hd hFq;replace hsh:=Hd hsh;replace hD' := Hd hD';replace hF:=Hd hF;replace hg' := Hd hg';replace hS:=Hd hS;replace s1:=Hd s1;replace hmu:=Hd hmu;clear c0 cp hn0;by_cases h9:9<=n
       · have h9i:(9:Int)<=(n:Int):=by omega
         have hpt:pt n=27:=pt_big h9;rw [hpt] at p1 p2 hS s1 s2 s3 hsh hmu2 r2 t1 t2 t3 t4 t5;clear s2 s3 r2;replace hpt:=Hd hpt;clear q2;go_upto_region 13 with fail
         go_quiet (fail)
         go_wp2_with fail
         refine (hsh.out _).mono ?_;rintro x w2 ⟨rfl,h2,h3⟩;have hF2:=(hFq.out _).trans h3;replace h2:=Hd h2;replace hF2:=Hd hF2;clear h3;go_wp2_with fail
         go_round
         case rel=>exact ⟨rsD (27) d', e+(27:Nat),fu,by simp,s1.out,h2.out,hF2.out,hS.out,t1.out,t2.out,t3.out,t4.out,t5.out⟩
         case measure=>exact hmu2.out _ h2.out
       · have h9i:¬(9:Int)<=(n:Int):=by omega
         have hn9i:(n:Int)<9:=by omega
         have q3:=q2 n (by omega);obtain ⟨pn,hpn⟩:∃pn,pn=pt n:=⟨_,rfl⟩;rw [<-hpn] at p1 p2 hS s1 s2 s3 hsh hmu2 r2 q3 t1 t2 t3 t4 t5;clear s2 s3 r2;replace hpn:=Hd hpn;clear q2;go_upto_region 13 with fail
         go_quiet (fail)
         go_upto_region 15 with fail
         go_quiet (fail)
         go_wp2_with fail
         refine (hsh.out _).mono ?_;rintro x w2 ⟨rfl,h2,h3⟩;have hF2:=(hFq.out _).trans h3;replace h2:=Hd h2;replace hF2:=Hd hF2;clear h3;go_wp2_with fail
         go_round
         case rel=>exact ⟨rsD (pn) d', e+(pn:Nat),fu,by simp,s1.out,h2.out,hF2.out,hS.out,t1.out,t2.out,t3.out,t4.out,t5.out⟩
         case measure=>exact hmu2.out _ h2.out
     · have hposi:¬(0:Int)<d'.dp:=hpos
       have hSa:a=(d', e):=by rw [hS];exact scaleR_out hpos
       replace hS:=Hd hS;replace hSa:=Hd hSa;replace hD' := Hd hD';replace hF:=Hd hF;replace hg' := Hd hg';clear hmu;go_wp2_with fail
       go_meet
       exact ⟨by rw [hSa.out],by rw [hSa.out];exact hD'.out,hF.out⟩
 case rest=>
   obtain ⟨rfl,hD1,hF1⟩:=hcut
   rename World=>wy
   replace hD1:=Hd hD1;replace hF1:=Hd hF1;clear c0 cp hn0
   go_upto_block 2 with fail
   go_cut [6] from 9 to 103 (fun s6 wx=>s6=.int .i64 bb.2/\Dm wx b bb.1 ng/\Fr (fun k=>k=b) w wx)
   case first=>
     go_wp2_with fail
     go_loopw [6,9] (fun s6 _ wr=>∃(d' : Dec) (e:Int) (fu:Nat),s6=.int .i64 e/\d'.Good/\Dm wr b d' ng/\Fr (fun k=>k=b) w wr/\bb=Br fu d' e/\mL d' <= fu/\e<=16767/\-89370+27 * (mL d' : Int)<=e/\-330<=d'.dp/\d'.dp<=0) (fun _ _ wr=>muL wr b)
     case atStart=>exact ⟨a.1,a.2,mL a.1,rfl,ga.out,hD1.out,hF1.out,hbb.out,Nat.le_refl _,by omega,by omega,by omega,by omega⟩
     case round=>
       obtain ⟨d', e,fu,rfl,hg', hD', hF,hS,hmf,he0,he1,hq0,hq1⟩:=hrel;obtain ⟨_,hmu,hc0,hh9⟩:=hD'.mu hg';have hcp:wr.cell? ⟨b,801,none⟩=some (.int .i64 d'.dp):=by obtain ⟨f,hx,_⟩:=hD'; exact hx.pt
       obtain ⟨z,hz⟩:∃z,z=d'.dp:=⟨_,rfl⟩;obtain ⟨hv,hhv⟩:∃hv,hv=De d' := ⟨_,rfl⟩;rw [<-hz] at hcp hq0 hq1;rw [<-hhv] at hc0 hh9;have hc0' : ((hv+48:Nat):Int)=(hv:Int)+48:=by omega
       rw [hc0'] at hc0;by_cases hlow:lowQ d'
       · obtain ⟨n,hn⟩:∃n:Nat,n=(-d'.dp).toNat:=⟨_,rfl⟩
         have hzn:-z=(n:Int):=by rw [hz,hn];omega
         have hmpos:0<mL d' := by
           unfold mL;rw [if_pos (by omega)];rcases hlow with h9 | ⟨_,h9⟩<;>omega
         rcases fu with _ | fu
         · omega
         rw [Br,if_pos hlow] at hS;obtain ⟨s1,s2,s3,s4⟩:=mL_step hg' hlow;rw [<-hn] at hS s1 s2 s3 s4;obtain ⟨p1,p2,_,_⟩:=Fj n;have t1:mL (lsD (pt n) d')<=fu:=by omega
         have t2:e - ((pt n:Nat):Int)<=16767:=by omega
         have t3:-89370+27 * (mL (lsD (pt n) d'):Int)<=e - ((pt n:Nat):Int):=by omega
         have t4:-330<=(lsD (pt n) d').dp:=by omega
         have t5:(lsD (pt n) d').dp<=0:=by omega
         replace t1:=Hd t1;replace t2:=Hd t2;replace t3:=Hd t3;replace t4:=Hd t4;replace t5:=Hd t5;have hsh:∀q,Calls Tryz.prog 147 #[.pointer (some ⟨b,0,none⟩),.int .i64 (pt n:Int)] (wr.drewN q) fun x w' => x=.returned (.tuple #[])/\Dm w' b (lsD (pt n) d') ng/\Fr (fun k=>k=b) (wr.drewN q) w' := fun q=>
           shiftL_any ((hw.out.fr hF).drewN q) (hD'.drewN q) hg' p1 (by omega) (by omega) (by omega)
         have hSl:=((hw.out.fr hF).at).pts;obtain ⟨pb,pc,q1,q2⟩:=hSl;have hFq:∀q,Fr (fun k=>k=b) w (wr.drewN q):=fun q=>hF.drewN q;have hmu2:∀w', Dm w' b (lsD (pt n) d') ng->muL w' b<muL wr b:=fun w' h' => by rw [(h'.mu s1).2.1,hmu];exact s2
         have hzc:z<0\/(z=0/\hv<5):=by
           rcases hlow with h9 | ⟨h9,h8⟩
           · left;omega
           · right;omega
         rw [<-hz] at s4;replace hmu2:=Hd hmu2;replace hFq:=Hd hFq;replace hsh:=Hd hsh;replace hD' := Hd hD';replace hF:=Hd hF;replace hg' := Hd hg';replace hS:=Hd hS;replace s1:=Hd s1;replace hmu:=Hd hmu;replace hn:=Hd hn;replace hz:=Hd hz;replace hhv:=Hd hhv;clear hlow hc0';rcases hzc with hzn0 | ⟨hz0,hh5⟩
         · by_cases h9:9<=n
           · have h9i:(9:Int)<=(n:Int):=by omega
             have hpt:pt n=27:=pt_big h9;rw [hpt] at p1 p2 hS s1 hsh hmu2 t1 t2 t3 t4 t5;clear s2 s3 s4;replace hpt:=Hd hpt;clear q2;go_upto_region 20 with fail
             go_quiet (fail)
             go_wp2_with fail
             refine (hsh.out _).mono ?_;rintro x w2 ⟨rfl,h2,h3⟩;have hF2:=(hFq.out _).trans h3;replace h2:=Hd h2;replace hF2:=Hd hF2;clear h3;go_wp2_with fail
             go_round
             case rel=>exact ⟨lsD (27) d', e - (27:Nat),fu,by simp,s1.out,h2.out,hF2.out,hS.out,t1.out,t2.out,t3.out,t4.out,t5.out⟩
             case measure=>exact hmu2.out _ h2.out
           · have h9i:¬(9:Int)<=(n:Int):=by omega
             have hn9i:(n:Int)<9:=by omega
             have q3:=q2 n (by omega);obtain ⟨pn,hpn⟩:∃pn,pn=pt n:=⟨_,rfl⟩;rw [<-hpn] at p1 p2 hS s1 hsh hmu2 q3 t1 t2 t3 t4 t5;clear s2 s3 s4;replace hpn:=Hd hpn;clear q2;go_upto_region 20 with fail
             go_quiet (fail)
             go_upto_region 22 with fail
             go_quiet (fail)
             go_wp2_with fail
             refine (hsh.out _).mono ?_;rintro x w2 ⟨rfl,h2,h3⟩;have hF2:=(hFq.out _).trans h3;replace h2:=Hd h2;replace hF2:=Hd hF2;clear h3;go_wp2_with fail
             go_round
             case rel=>exact ⟨lsD (pn) d', e - (pn:Nat),fu,by simp,s1.out,h2.out,hF2.out,hS.out,t1.out,t2.out,t3.out,t4.out,t5.out⟩
             case measure=>exact hmu2.out _ h2.out
         · subst hz0
           have hn00:n=0:=by omega
           subst hn00;have hh5i:(hv:Int)+48<53:=by omega
           have q3:=q2 0 (by omega);have q3' : wr.cell? pb=some (.int .i64 (pt 0:Int)):=q3;obtain ⟨pn,hpn⟩:∃pn,pn=pt 0:=⟨_,rfl⟩;rw [<-hpn] at p1 p2 hS s1 hsh hmu2 q3 q3' t1 t2 t3 t4 t5;clear s2 s3 s4;replace hpn:=Hd hpn;clear q2 hzn;go_upto_region 20 with fail
           go_quiet (fail)
           go_upto_region 22 with fail
           go_quiet (fail)
           go_wp2_with fail
           refine (hsh.out _).mono ?_;rintro x w2 ⟨rfl,h2,h3⟩;have hF2:=(hFq.out _).trans h3;replace h2:=Hd h2;replace hF2:=Hd hF2;clear h3;go_wp2_with fail
           go_round
           case rel=>exact ⟨lsD (pn) d', e - (pn:Nat),fu,by simp,s1.out,h2.out,hF2.out,hS.out,t1.out,t2.out,t3.out,t4.out,t5.out⟩
           case measure=>exact hmu2.out _ h2.out
       · have hSa:bb=(d', e):=by rw [hS];exact scaleL_out hlow
         have hz0:z=0:=by
           rcases Int.lt_or_eq_of_le hq1 with h9 | h9
           · exact absurd (.inl (by omega)) hlow
           · exact h9
         have hh5i:¬(hv:Int)+48<53:=by
           intro h9;exact hlow (.inr ⟨by omega,by omega⟩)
         subst hz0;replace hS:=Hd hS;replace hSa:=Hd hSa;replace hD' := Hd hD';replace hF:=Hd hF;replace hg' := Hd hg';replace hlow:=Hd hlow;replace hz:=Hd hz;replace hhv:=Hd hhv;clear hmu hc0';go_wp2_with fail
         go_meet
         exact ⟨by rw [hSa.out],by rw [hSa.out];exact hD'.out,hF.out⟩
   case rest=>
     obtain ⟨rfl,hD2,hF2⟩:=hcut
     rename World=>wz
     have o1:bits .and .u64 0 4503599627370495=0:=by decide +kernel
     have o2:bits .and .i64 2047 2047=2047:=by decide +kernel
     have o3:bits .or .u64 0 9218868437227405312=9218868437227405312:=by decide +kernel
     have o4:bits .or .u64 9218868437227405312 9223372036854775808=18442240474082181120:=by decide +kernel
     obtain ⟨e,he⟩:∃e,e=bb.2 - 1:=⟨_,rfl⟩;obtain ⟨c,hc⟩:∃c,c=if e < -1022 then shR 2000 (-1022 - e).toNat bb.1 else bb.1:=⟨_,rfl⟩;obtain ⟨e2,he2⟩:∃e2,e2=if e < -1022 then -1022 else e:=⟨_,rfl⟩;obtain ⟨m,hm⟩:∃m,m=rndI (lsD 53 c):=⟨_,rfl⟩;have hfb:=fbM_is hne.out hp1 hp0 ha.out hbb.out he hc he2 hm;have hcG:c.Good/\c.dp<=0/\-50000<=c.dp:=by
       rw [hc];split
       · obtain ⟨x1,x2,x3⟩:=shR_good 2000 (-1022 - e).toNat bb.1 gb.out (by omega) (by omega)
         exact ⟨x1,by omega,by omega⟩
       · exact ⟨gb.out,gb1,by omega⟩
     have he2b:-1022<=e2/\e2<=16767:=by rw [he2];split<;>omega
     have heb:-89371<=e/\e<=16766:=by omega
     have hee:bb.2 - 1=e:=he.symm;have hSl:=(hw.out.fr hF2).at;have i0:=hSl.i0;have i1:=hSl.i1;have i2:=hSl.i2;have hcut2:∀W,Dm W b bb.1 ng->Fr (fun k=>k=b) w W->¬e < -1022->Dm W b c ng:=fun W h1 _ h2=>by rw [hc,if_neg h2];exact h1
     have hshc:∀n:Nat,e < -1022->(n:Int)=-1022 - e->Calls Tryz.prog 147 #[.pointer (some ⟨b,0,none⟩),.int .i64 (-(n:Int))] wz fun x w' => x=.returned (.tuple #[])/\Dm w' b c ng/\Fr (fun k=>k=b) wz w' := fun n h1 h2=>by
       have e3:(-1022 - e).toNat=n:=by omega
       rw [hc,if_pos h1,e3];exact shiftR_any hD2 gb.out (by omega) (by omega) (by omega) (by omega) (by omega) (by decide)
     have he2p:e < -1022->e2=-1022:=fun h=>by rw [he2,if_pos h]
     have he2n:¬e < -1022->e2=e:=fun h=>by rw [he2,if_neg h]
     replace hfb:=Hd hfb;replace he:=Hd he;replace hc:=Hd hc;replace he2:=Hd he2;replace hm:=Hd hm;replace hcG:=Hd hcG;replace hshc:=Hd hshc;replace hcut2:=Hd hcut2;replace he2p:=Hd he2p;replace he2n:=Hd he2n;replace hSl:=Hd hSl;replace hD2:=Hd hD2;replace hF2:=Hd hF2;clear hD1 hF1
     go_upto_if 111 with fail
     go_cut [6,10] from 104 to 125 (fun s6 _ wx=>s6=.int .i64 e2/\Dm wx b c ng/\Fr (fun k=>k=b) w wx)
     case first=>
       by_cases hlt:e < -1022
       · obtain ⟨n,hn⟩:∃n:Nat,(n:Int)=-1022 - e:=⟨(-1022 - e).toNat,by omega⟩
         have hn2:-1022 - e=(n:Int):=hn.symm;have hx:=hshc.out n hlt hn;have hen:e+(n:Int)=-1022:=by omega
         have he2' := he2p.out hlt;replace hx:=Hd hx;replace hn:=Hd hn;replace he2' := Hd he2';go_wp2_with fail
         refine hx.out.mono ?_;rintro x w2 ⟨rfl,h2,h3⟩;have hF3:=hF2.out.trans h3;replace h2:=Hd h2;replace hF3:=Hd hF3;clear h3;go_wp2_with fail
         go_meet
         exact ⟨by rw [he2'.out],h2.out,hF3.out⟩
       · have he2' := he2n.out hlt
         have hDc:=hcut2.out _ hD2.out hF2.out hlt;replace he2' := Hd he2';replace hDc:=Hd hDc;go_wp2_with fail
         go_meet
         exact ⟨by rw [he2'.out],hDc.out,hF2.out⟩
     case rest=>
       clear i0 i1 i2 hSl;obtain ⟨rfl,hDc,hFc⟩:=hcut
       rename World=>wt
       have hSl:=(hw.out.fr hFc).at;have i0:=hSl.i0;have i1:=hSl.i1;have i2:=hSl.i2;obtain ⟨E,hE⟩:∃E:Nat,e2+1023=(E:Int):=⟨(e2+1023).toNat,by omega⟩;have hE2:e2 - (-1023)=(E:Int):=by omega
       have hsg:wt.cell? ⟨b,802,none⟩=some (.bool ng):=by obtain ⟨f,hx,_⟩:=hDc;exact hx.sg
       by_cases hov:1024<=e2
       · have hInf:fbR d=9218868437227405312:=by
           have:=hfb.out;rw [if_pos hov] at this;unfold fbR;rw [this]
         have hEi:(2047:Int)<=(E:Int):=by omega
         have hFF:=hFc;replace hInf:=Hd hInf;replace hFF:=Hd hFF;replace hDc:=Hd hDc;replace hFc:=Hd hFc;replace hSl:=Hd hSl;clear hov;go_upto_region 30 with fail
         go_quiet (fail)
         go_wp2_with fail
         go_step3
         refine Or.inr ⟨rfl,?_⟩;show Code.wp _ _ _ _ _;go_upto_region 40 with fail
         go_quiet (fail)
         go_wp2_with fail
         go_step3
         go_upto_region 43 with fail
         go_quiet (fail)
         cases ng
         · go_wp2_with fail
           rw [Exit.noGoto_ret];refine bodyPost_ret (v:=.tuple #[.int .u64 9218868437227405312,.bool true]) (by simp [results,Tryz.results209,go_sem]) rfl ⟨(by rw [hInf.out];rfl),?_⟩;repeat (first | exact hFF.out | refine Fr.drewN ?_ _)
         · go_upto_region 45 with fail
           go_quiet (fail)
           go_wp2_with fail
           rw [Exit.noGoto_ret];refine bodyPost_ret (v:=.tuple #[.int .u64 18442240474082181120,.bool true]) (by simp [results,Tryz.results209,go_sem]) rfl ⟨(by rw [hInf.out];rfl),?_⟩;repeat (first | exact hFF.out | refine Fr.drewN ?_ _)
       · have hfb2:=hfb.out
         rw [if_neg hov] at hfb2;replace hfb2:=Hd hfb2;have hEi:¬(2047:Int)<=(E:Int):=by omega
         have hsh:∀q,Calls Tryz.prog 147 #[.pointer (some ⟨b,0,none⟩),.int .i64 53] (wt.drewN q) fun x w' => x=.returned (.tuple #[])/\Dm w' b (lsD 53 c) ng/\Fr (fun k=>k=b) (wt.drewN q) w' := fun q=>
           shiftL_any (k:=53) ((hw.out.fr hFc).drewN q) (hDc.drewN q) hcG.out.1 (by decide) (by decide) (by have:=hcG.out.2;omega) (by have:=hcG.out.2;omega)
         obtain ⟨g1,g2,_,_⟩:=ls_good hcG.out.1 53;have g3:=ls_len hcG.out.1 53;rw [cheat53] at g3;have hc2:=hcG.out.2;have hld:-1000000<=(lsD 53 c).dp/\(lsD 53 c).dp<=16:=by
           generalize (if Az c.L (Lib.decDigits (5 ^ 53))=true then 1 else 0)=z at g3;rw [g2];omega
         have hrd:∀W,Dm W b (lsD 53 c) ng->Calls Tryz.prog 240 #[.pointer (some ⟨b,0,none⟩)] W fun x w' => x=.returned (.int .u64 (m:Int))/\w' = W:=fun W h=>by
           rw [hm.out];exact rounded_any h g1 hld.1 hld.2
         have hm9:m<=10000000000000000:=by rw [hm.out];exact rnd_lt g1 hld.2
         have hFq:∀q,Fr (fun k=>k=b) w (wt.drewN q):=fun q=>hFc.drewN q;have hnofl:=(fb_lt d (.inr hg.out)).2;have hE9:1<=E/\E<=2046:=by omega
         have he2E:e2=(E:Int) - 1023:=by omega
         replace he2E:=Hd he2E;replace hnofl:=Hd hnofl;replace hFq:=Hd hFq;replace hrd:=Hd hrd;replace hsh:=Hd hsh;replace hDc:=Hd hDc;replace hFc:=Hd hFc;replace hSl:=Hd hSl;clear g1 g2 g3 hc2 hld;go_upto_region 30 with fail
         go_quiet (fail)
         go_wp2_with fail
         refine (hsh.out _).mono ?_;rintro x w3 ⟨rfl,h3,h4⟩;clear i0 i1 i2 hsg;have hFF:=(hFq.out _).trans h4;have hSl3:=(hw.out.fr hFF).at;have i0:=hSl3.i0;have i1:=hSl3.i1;have i2:=hSl3.i2;have hsg:w3.cell? ⟨b,802,none⟩=some (.bool ng):=by obtain ⟨f,hx,_⟩:=h3;exact hx.sg
         have hr3:=hrd.out w3 h3;replace hr3:=Hd hr3;replace hFF:=Hd hFF;replace hSl3:=Hd hSl3;replace h3:=Hd h3;clear h4;go_wp2_with fail
         refine hr3.out.mono ?_;rintro x w4 ⟨rfl,hww⟩;obtain rfl:=hww.symm;clear hww;by_cases hm53:m=9007199254740992
         · have hfb3:=hfb2.out
           rw [if_pos hm53] at hfb3;have hmi:(m:Int)=9007199254740992:=by omega
           by_cases hov2:1024<=e2+1
           · have hInf:fbR d=9218868437227405312:=by
               rw [if_pos hov2] at hfb3;unfold fbR;rw [hfb3]
             have hE3:e2+1+1023=2047:=by have:=he2E.out;omega
             have hE4:e2+1 - (-1023)=2047:=by omega
             replace hInf:=Hd hInf;replace hfb3:=Hd hfb3;replace hm53:=Hd hm53;clear hov2 hE hE2;go_upto_region 36 with fail
             go_quiet (fail)
             go_wp2_with fail
             go_step3
             refine Or.inr ⟨rfl,?_⟩;show Code.wp _ _ _ _ _;go_upto_region 40 with fail
             go_quiet (fail)
             go_wp2_with fail
             go_step3
             go_upto_region 43 with fail
             go_quiet (fail)
             cases ng
             · go_wp2_with fail
               rw [Exit.noGoto_ret];refine bodyPost_ret (v:=.tuple #[.int .u64 9218868437227405312,.bool true]) (by simp [results,Tryz.results209,go_sem]) rfl ⟨(by rw [hInf.out];rfl),?_⟩;repeat (first | exact hFF.out | refine Fr.drewN ?_ _)
             · go_upto_region 45 with fail
               go_quiet (fail)
               go_wp2_with fail
               rw [Exit.noGoto_ret];refine bodyPost_ret (v:=.tuple #[.int .u64 18442240474082181120,.bool true]) (by simp [results,Tryz.results209,go_sem]) rfl ⟨(by rw [hInf.out];rfl),?_⟩;repeat (first | exact hFF.out | refine Fr.drewN ?_ _)
           · rw [if_neg hov2] at hfb3
             obtain ⟨E1,hE1⟩:∃E1:Nat,E1=E+1:=⟨_,rfl⟩;have hE3:e2+1+1023=(E1:Int):=by omega
             have hE4:e2+1 - (-1023)=(E1:Int):=by omega
             have hE5:¬(2047:Int)<=(E1:Int):=by have:=he2E.out;omega
             have hE6:E1<=2047:=by omega
             have hbit:bits .and .u64 4503599627370496 4503599627370496=4503599627370496:=by decide +kernel
             have hcl:bits .and .u64 4503599627370496 4503599627370495=0:=by decide +kernel
             have hEn:(e2+1+1023).toNat=E1:=by omega
             have hO:=outs_of (M:=4503599627370496) (E1:=E1) (by decide) hE6;have hfb4:fbM d=some (4503599627370496,e2+1):=hfb3;obtain ⟨B,hB⟩:∃B,B=E1 * 4503599627370496:=⟨_,rfl⟩;have hfr:fbR d=B:=by
               unfold fbR;rw [hfb4];dsimp only;rw [hEn,hB];simp
             have hni:fbR d≠9218868437227405312:=fun h=>by
               have:=hnofl.out.2 h;rw [hfb4] at this;cases this
             have a2:=hO.a2;have a4:=hO.a4;have a5:=hO.a5;have e0:4503599627370496 % 4503599627370496=0:=by decide
             rw [e0,Nat.zero_add,<-hB] at a4 a5;have hxi:(E1:Int) * 4503599627370496=(B:Int):=by rw [hB];simp
             have hx9:B<=9223372036854775808:=by rw [hB];omega
             obtain ⟨B2,hB2⟩:∃B2,B2=B+9223372036854775808:=⟨_,rfl⟩;rw [<-hB2] at a5;have hres0:Ending.returned (.tuple #[.int .u64 (B:Int),.bool false])=Ending.returned (.tuple #[.int .u64 ((fbR d+sgB false:Nat):Int),.bool (decide (fbR d=9218868437227405312))]):=by
               rw [decide_eq_false hni,hfr];rfl
             have hres1:Ending.returned (.tuple #[.int .u64 (B2:Int),.bool false])=Ending.returned (.tuple #[.int .u64 ((fbR d+sgB true:Nat):Int),.bool (decide (fbR d=9218868437227405312))]):=by
               rw [decide_eq_false hni,hfr,hB2];rfl
             have a4' : bits .or .u64 0 (B:Int)=(B:Int):=a4;clear a4 hO e0;replace hres0:=Hd hres0;replace hres1:=Hd hres1;replace hB:=Hd hB;replace hB2:=Hd hB2;replace hfr:=Hd hfr;replace hni:=Hd hni;replace hfb3:=Hd hfb3;replace hfb4:=Hd hfb4;replace hEn:=Hd hEn;replace hE1:=Hd hE1;replace hm53:=Hd hm53;clear hov2 hE hE2;go_upto_region 36 with fail
             go_quiet (fail)
             go_wp2_with fail
             go_step3
             refine Or.inl ⟨rfl,?_⟩;show Code.wp _ _ _ _ _;go_upto_region 43 with fail
             go_quiet (fail)
             cases ng
             · go_wp2_with fail
               rw [Exit.noGoto_ret];refine bodyPost_ret (v:=.tuple #[.int .u64 (B:Int),.bool false]) (by simp [results,Tryz.results209,go_sem]) rfl ⟨hres0.out,?_⟩;repeat (first | exact hFF.out | refine Fr.drewN ?_ _)
             · go_upto_region 45 with fail
               go_quiet (fail)
               go_wp2_with fail
               rw [Exit.noGoto_ret];refine bodyPost_ret (v:=.tuple #[.int .u64 (B2:Int),.bool false]) (by simp [results,Tryz.results209,go_sem]) rfl ⟨hres1.out,?_⟩;repeat (first | exact hFF.out | refine Fr.drewN ?_ _)
         · have hfb3:=hfb2.out
           rw [if_neg hm53] at hfb3;have hmne:((m:Int) == 9007199254740992)=false:=by rw [beq_eq_false_iff_ne];omega
           have hand:bits .and .u64 (m:Int) 4503599627370496=((m / 4503599627370496 % 2 * 4503599627370496:Nat):Int):=by
             have h1:=Ce (x:=m) (y:=4503599627370496) (by omega) (by omega);rw [and52 (x:=m) (q:=m / 4503599627370496) (c:=m % 4503599627370496) (by omega) (Nat.mod_lt _ (by decide))] at h1;exact h1
           by_cases hq:m / 4503599627370496 % 2=0
           · rw [if_pos hq] at hfb3
             rw [hq,Nat.zero_mul] at hand;have hand' : bits .and .u64 (m:Int) 4503599627370496=0:=hand;obtain ⟨E0,hE0⟩:∃E0:Nat,E0=0:=⟨_,rfl⟩;have hEn:((-1023:Int)+1023).toNat=E0:=by rw [hE0];rfl
             have hE0b:E0<=2047:=by omega
             clear hand;have hO:=outs_of (M:=m) (E1:=E0) (by omega) (by omega);obtain ⟨B,hB⟩:∃B,B=m % 4503599627370496+E0 * 4503599627370496:=⟨_,rfl⟩;have hfr:fbR d=B:=by
               unfold fbR;rw [hfb3];dsimp only;rw [hEn,hB]
             have hni:fbR d≠9218868437227405312:=fun h=>by
               have:=hnofl.out.2 h;rw [hfb3] at this;cases this
             rw [<-hB] at hO;have a1:=hO.a1;have a2:=hO.a2;have a4:=hO.a4;have a5:=hO.a5;obtain ⟨m2,hm2⟩:∃m2,m2=m % 4503599627370496:=⟨_,rfl⟩;obtain ⟨x2,hx2⟩:∃x2,x2=E0 * 4503599627370496:=⟨_,rfl⟩;rw [<-hm2] at a1 a4;rw [<-hx2] at a4;have hxi:((E0:Nat):Int) * 4503599627370496=(x2:Int):=by rw [hx2];simp
             have hx9:x2<=9223372036854775808:=by rw [hx2];omega
             obtain ⟨B2,hB2⟩:∃B2,B2=B+9223372036854775808:=⟨_,rfl⟩;rw [<-hB2] at a5;have hres0:Ending.returned (.tuple #[.int .u64 (B:Int),.bool false])=Ending.returned (.tuple #[.int .u64 ((fbR d+sgB false:Nat):Int),.bool (decide (fbR d=9218868437227405312))]):=by
               rw [decide_eq_false hni,hfr];rfl
             have hres1:Ending.returned (.tuple #[.int .u64 (B2:Int),.bool false])=Ending.returned (.tuple #[.int .u64 ((fbR d+sgB true:Nat):Int),.bool (decide (fbR d=9218868437227405312))]):=by
               rw [decide_eq_false hni,hfr,hB2];rfl
             clear hO;replace hres0:=Hd hres0;replace hres1:=Hd hres1;replace hB:=Hd hB;replace hB2:=Hd hB2;replace hm2:=Hd hm2;replace hx2:=Hd hx2;replace hfr:=Hd hfr;replace hni:=Hd hni;replace hfb3:=Hd hfb3;replace hEn:=Hd hEn;have a2' : bits .and .i64 0 2047=0:=by decide +kernel
             have hx0:(x2:Int)=0:=by have h9:=hx2.out;rw [hE0,Nat.zero_mul] at h9;rw [h9];decide
             rw [hx0] at a4;clear a2 hxi hE hE2 hEn;replace hE0:=Hd hE0;replace hx0:=Hd hx0;replace hq:=Hd hq;go_wp2_with fail
             go_step3
             refine Or.inl ⟨rfl,?_⟩;show Code.wp _ _ _ _ _;go_upto_region 43 with fail
             go_quiet (fail)
             cases ng
             · go_wp2_with fail
               rw [Exit.noGoto_ret];refine bodyPost_ret (v:=.tuple #[.int .u64 (B:Int),.bool false]) (by simp [results,Tryz.results209,go_sem]) rfl ⟨hres0.out,?_⟩;repeat (first | exact hFF.out | refine Fr.drewN ?_ _)
             · go_upto_region 45 with fail
               go_quiet (fail)
               go_wp2_with fail
               rw [Exit.noGoto_ret];refine bodyPost_ret (v:=.tuple #[.int .u64 (B2:Int),.bool false]) (by simp [results,Tryz.results209,go_sem]) rfl ⟨hres1.out,?_⟩;repeat (first | exact hFF.out | refine Fr.drewN ?_ _)
           · rw [if_neg hq] at hfb3
             have hq1:m / 4503599627370496 % 2=1:=by omega
             rw [hq1,Nat.one_mul] at hand;have hand' : bits .and .u64 (m:Int) 4503599627370496=4503599627370496:=hand;have hEn:(e2+1023).toNat=E:=by omega
             clear hand;have hO:=outs_of (M:=m) (E1:=E) (by omega) (by omega);obtain ⟨B,hB⟩:∃B,B=m % 4503599627370496+E * 4503599627370496:=⟨_,rfl⟩;have hfr:fbR d=B:=by
               unfold fbR;rw [hfb3];dsimp only;rw [hEn,hB]
             have hni:fbR d≠9218868437227405312:=fun h=>by
               have:=hnofl.out.2 h;rw [hfb3] at this;cases this
             rw [<-hB] at hO;have a1:=hO.a1;have a2:=hO.a2;have a4:=hO.a4;have a5:=hO.a5;obtain ⟨m2,hm2⟩:∃m2,m2=m % 4503599627370496:=⟨_,rfl⟩;obtain ⟨x2,hx2⟩:∃x2,x2=E * 4503599627370496:=⟨_,rfl⟩;rw [<-hm2] at a1 a4;rw [<-hx2] at a4;have hxi:((E:Nat):Int) * 4503599627370496=(x2:Int):=by rw [hx2];simp
             have hx9:x2<=9223372036854775808:=by rw [hx2];omega
             obtain ⟨B2,hB2⟩:∃B2,B2=B+9223372036854775808:=⟨_,rfl⟩;rw [<-hB2] at a5;have hres0:Ending.returned (.tuple #[.int .u64 (B:Int),.bool false])=Ending.returned (.tuple #[.int .u64 ((fbR d+sgB false:Nat):Int),.bool (decide (fbR d=9218868437227405312))]):=by
               rw [decide_eq_false hni,hfr];rfl
             have hres1:Ending.returned (.tuple #[.int .u64 (B2:Int),.bool false])=Ending.returned (.tuple #[.int .u64 ((fbR d+sgB true:Nat):Int),.bool (decide (fbR d=9218868437227405312))]):=by
               rw [decide_eq_false hni,hfr,hB2];rfl
             clear hO;replace hres0:=Hd hres0;replace hres1:=Hd hres1;replace hB:=Hd hB;replace hB2:=Hd hB2;replace hm2:=Hd hm2;replace hx2:=Hd hx2;replace hfr:=Hd hfr;replace hni:=Hd hni;replace hfb3:=Hd hfb3;replace hEn:=Hd hEn;replace hq:=Hd hq;replace hq1:=Hd hq1;go_wp2_with fail
             go_step3
             refine Or.inl ⟨rfl,?_⟩;show Code.wp _ _ _ _ _;go_upto_region 43 with fail
             go_quiet (fail)
             cases ng
             · go_wp2_with fail
               rw [Exit.noGoto_ret];refine bodyPost_ret (v:=.tuple #[.int .u64 (B:Int),.bool false]) (by simp [results,Tryz.results209,go_sem]) rfl ⟨hres0.out,?_⟩;repeat (first | exact hFF.out | refine Fr.drewN ?_ _)
             · go_upto_region 45 with fail
               go_quiet (fail)
               go_wp2_with fail
               rw [Exit.noGoto_ret];refine bodyPost_ret (v:=.tuple #[.int .u64 (B2:Int),.bool false]) (by simp [results,Tryz.results209,go_sem]) rfl ⟨hres1.out,?_⟩;repeat (first | exact hFF.out | refine Fr.drewN ?_ _)
def decN (d:Bool) (L:List UInt8) (m:Nat) (x:Int):Dec:=⟨A0 L,(if d then (ndF L:Int) - m else ndF L)+x,false⟩
set_option maxRecDepth 100000 in
set_option maxHeartbeats 6400000 in
theorem set_any {s:ByteArray} {neg d:Bool} {L:List UInt8} {m:Nat} {x:Int} (h:FTxt s neg d L m x) (hz:s.size<=700) {w:World} {b:Nat} {f:Nat->UInt8} {n0 t0:Bool} (hD:DM w b f 0 0 n0 t0) :
   Calls Tryz.prog 208 #[.pointer (some ⟨b,0,none⟩),.string s] w fun e w' => e=.returned (.bool true)/\Dm w' b (decN d L m x) neg/\Fr (fun k=>k=b) w w' := by
 obtain ⟨⟨c,body,rest,hs,hc,hsc,hex,hok⟩,hsz,hne⟩:=h
 replace hne:=Hd hne
 obtain ⟨a,ha⟩:∃a:Nat,a=if neg then 1 else 0:=⟨_,rfl⟩
 have hda:s.data.toList.drop a=c :: body:=by
   rw [hs,ha];cases neg<;>rfl
 obtain ⟨halt,hca,hda1⟩:=Ah hda
 have h0lt:0<s.size:=by omega
 obtain ⟨c0,hc0⟩:∃c0:UInt8,s[0]'h0lt=c0:=⟨_,rfl⟩
 have hc0n:(neg=true/\a=1/\(c0.toNat:Int)=45)\/(neg=false/\a=0/\c0=c):=by
   cases neg with
   | true=>
     left;refine ⟨rfl,ha,?_⟩;have h1:=Lib.data_getElem? s 0 h0lt;rw [hs,hc0] at h1;have h2:c0=45:=(Option.some.inj h1).symm;rw [h2];rfl
   | false=>
     right;have ha0:a=0:=ha;subst ha0;exact ⟨rfl,rfl,hc0.symm.trans hca⟩
 have h0lti:(0:Int)<(s.size:Int):=by omega
 have hsne:¬s=ByteArray.empty:=fun e=>by rw [Aj,e] at h0lt;exact absurd h0lt (by decide)
 have hsne2:decide (s=ByteArray.empty)=false:=decide_eq_false hsne
 have hsz9:(s.size:Int)<=700:=by omega
 have ha1:a<=1:=by rw [ha];split<;>omega
 have hc9:48<=c.toNat/\c.toNat<=57:=by simp [isD] at hc;exact hc
 have csg:=hD.sg
 have cct:=hD.cut
 have zsg:=hD.blk.frz 802 none
 have zct:=hD.blk.frz 803 none
 have hS1:=(hD.setS false).setT false
 have hF1:=Fr.setCell (S:=fun k=>k=b) (p:=⟨b,803,none⟩) (Fr.setCell (S:=fun k=>k=b) (p:=⟨b,802,none⟩) (Fr.refl _ w) (fun _=>rfl) (.bool false)) (fun _=>rfl) (.bool false)
 have hS2:=hS1.setS true
 have hF2:=Fr.setCell (p:=⟨b,802,none⟩) hF1 (fun _=>rfl) (.bool true)
 replace hS1:=Hd hS1
 replace hF1:=Hd hF1
 replace hS2:=Hd hS2
 replace hF2:=Hd hF2
 replace hD:=Hd hD
 replace hs:=Hd hs
 replace hc0n:=Hd hc0n
 replace ha:=Hd ha
 have hcai:=hca
 replace hca:=Hd hca
 clear hcai
 replace hsc:=Hd hsc
 replace hex:=Hd hex
 replace hok:=Hd hok
 replace hc:=Hd hc
 replace hda:=Hd hda
 replace hda1:=Hd hda1
 go_enter Tryz.func208,Tryz.ntmps208
 go_upto_block 0 with fail
 go_cut [5] from 22 to 33 (fun s5 wx=>s5=.int .i64 (a:Int)/\DM wx b f 0 0 neg false/\Fr (fun k=>k=b) w wx)
 case first=>
   rcases hc0n.out with ⟨e1,e2,e3⟩ | ⟨e1,e2,e3⟩
   · subst e1
     subst e2;go_wp2_with fail
     go_meet
     exact ⟨rfl,hS2.out,hF2.out⟩
   · subst e1
     subst e2;subst e3;have k1:¬(c0.toNat:Int)=43:=by omega
     have k2:¬(c0.toNat:Int)=45:=by omega
     have k3:((c0.toNat:Int) == 43)=false:=by simpa using k1
     have k4:((c0.toNat:Int) == 45)=false:=by simpa using k2
     go_wp2_with fail
     go_meet
     exact ⟨rfl,hS1.out,hF1.out⟩
 case rest=>
   clear hS1 hF1 hS2 hF2 hD csg cct zsg zct;obtain ⟨rfl,hD,hF⟩:=hcut
   rename World=>wy
   clear hc0n hc0;have halti:(a:Int)<(s.size:Int):=by omega
   have hca' := hca.out;obtain ⟨K,hK⟩:∃K:Nat,K=s.size - rest.length:=⟨_,rfl⟩;have hrest:∃p,c :: body=p++rest:=Dl hsc.out;have hKd:K<=s.size/\s.data.toList.drop K=rest:=by
     obtain ⟨p,hp⟩:=hrest;have h1:s.data.toList=(s.data.toList.take a++p)++rest:=by
       rw [List.append_assoc,<-hp,<-hda.out,List.take_append_drop]
     have h2:=congrArg List.length h1;rw [<-Aj,List.length_append] at h2;have h3:K=(s.data.toList.take a++p).length:=by omega
     refine ⟨by omega,?_⟩;rw [h3];have h4:∀A B:List UInt8,(A++B).drop A.length=B:=fun A B=>List.drop_left ..;have h5:=h4 (s.data.toList.take a++p) rest;rw [<-h1] at h5;exact h5
   replace hK:=Hd hK;replace hKd:=Hd hKd;replace hD:=Hd hD;replace hF:=Hd hF;clear hrest
   go_upto_block 1 with fail
   go_cut [5,6,7] from 36 to 116 (fun s5 s6 s7 wx=>s5=.int .i64 (K:Int)/\s6=.bool d/\s7=.bool true/\(∃g,DM wx b g (ndF L) ((ndF L:Int) - m) neg false/\row g (ndF L)=A0 L)/\Fr (fun k=>k=b) w wx)
   case first=>
     go_wp2_with fail
     go_loopw [5,6,7] (fun s5 s6 s7 wr=>∃(k:Nat) (e:Bool) (M:List UInt8) (j:Nat),s5=.int .i64 (k:Int)/\s6=.bool e/\s7=.bool (decide (M≠[])) /\
         k<=s.size/\j<=k/\M.length<=k/\(∀b∈M,isD b=true)/\(∀b∈s.data.toList.drop k,okC b)/\B0 (s.data.toList.drop k) e M j=(d,L,m,rest) /\
         (∃g,DM wr b g (ndF M) ((ndF M:Int) - j) neg false/\row g (ndF M)=A0 M)/\Fr (fun k=>k=b) w wr) (fun i _ _ _=>s.size - (intOf i).toNat)
     case atStart=>
       exact ⟨a,false,[],0,rfl,rfl,rfl,by omega,Nat.zero_le _,Nat.zero_le _,fun b hb=>by simp at hb,fun b hb=>hok.out b (by rw [<-hda.out];exact hb),by rw [hda.out];exact hsc.out,⟨f,hD.out,rfl⟩,hF.out⟩
     case round=>
       clear hD hF;obtain ⟨k,e,M,j,rfl,rfl,rfl,hk,hjk,hMk,hMd,hkok,hscan,⟨g,hD,hrow⟩,hF⟩:=hrel;obtain ⟨nd,hnd⟩:∃nd,nd=ndF M:=⟨_,rfl⟩;obtain ⟨dp,hdp⟩:∃dp:Int,dp=(nd:Int) - j:=⟨_,rfl⟩;obtain ⟨nz,hnz⟩:∃nz:Bool,nz=decide (M≠[]):=⟨_,rfl⟩;have hndM:nd<=M.length:=by rw [hnd];exact Co M
       rw [<-hnd] at hD hrow;rw [<-hdp] at hD;rw [<-hnz];have hdpb:-1000<=dp/\dp<=1000:=by omega
       have hnd9:nd<=700:=by omega
       have c0:=hD.nd;have c1:=hD.pt;have z0:=hD.blk.frz 800 none;have z1:=hD.blk.frz 801 none;replace hnd:=Hd hnd;replace hdp:=Hd hdp;replace hnz:=Hd hnz;replace hMd:=Hd hMd;replace hkok:=Hd hkok;replace hrow:=Hd hrow;cases hl:s.data.toList.drop k with
       | nil=>
         have hks:=Cg hl;have hke:s.size=k:=by omega
         rw [hl,B0] at hscan;simp only [Prod.mk.injEq] at hscan;obtain ⟨rfl,rfl,rfl,hr0⟩:=hscan;have hKk:K=k:=by rw [hK.out,<-hr0];simp;omega
         have hlti:¬(k:Int)<(s.size:Int):=by omega
         rw [hnd.out] at hD hrow;replace hl:=Hd hl;replace hr0:=Hd hr0;replace hke:=Hd hke;replace hKk:=Hd hKk;replace hD:=Hd hD;replace hF:=Hd hF;clear hks;go_wp2_with fail
         go_meet
         exact ⟨by rw [hKk.out],rfl,by rw [hnz.out,decide_eq_true hne.out],⟨g,by have:=hD.out;rw [hdp.out,hnd.out] at this;exact this,hrow.out⟩,hF.out⟩
       | cons c1 l1=>
         obtain ⟨hlt,hc1,hd1⟩:=Ah hl;have hlti:(k:Int)<(s.size:Int):=by omega
         have hokc1:okC c1:=hkok.out c1 (by rw [hl];exact List.mem_cons_self ..);have hlow1:=okC_low hokc1;have q95:((c1.toNat:Int) == 95)=false:=by simp;omega
         have hkok1:∀b∈s.data.toList.drop (k+1),okC b:=fun b hb=>hkok.out b (by rw [hl];rw [hd1] at hb;exact List.mem_cons_of_mem _ hb);have hc256:c1.toNat<256:=c1.toNat_lt;rw [hl,B0] at hscan;replace hkok1:=Hd hkok1;replace hd1:=Hd hd1;replace hl:=Hd hl;replace hokc1:=Hd hokc1;by_cases h46:c1.toNat=46
         · rw [if_pos h46] at hscan
           have q46:((c1.toNat:Int) == 46)=true:=by simp;omega
           have q46' : (c1.toNat:Int)=46:=by omega
           cases e with
           | true=>
             exfalso;simp only [if_true,Prod.mk.injEq] at hscan;have hx:=hex.out;rw [<-hscan.2.2.2] at hx;cases hx<;>(revert h46;decide)
           | false=>
             rw [if_neg (by decide),<-hd1.out] at hscan;have hDp:=hD.setP (nd:Int);replace hDp:=Hd hDp;replace hscan:=Hd hscan;replace hD:=Hd hD;replace hF:=Hd hF;clear hlow1 h46;go_wp2_with fail
             go_round
             case rel=>exact ⟨k+1,true,M,0,by go_num,rfl,by rw [hnz.out],by omega,by omega,by omega,hMd.out,hkok1.out,hscan.out,⟨g,by rw [<-hnd.out];simpa using hDp.out,by rw [<-hnd.out];exact hrow.out⟩,hF.out.setCell (fun _=>rfl) _⟩
             case measure=>simp [intOf];omega
         · rw [if_neg h46] at hscan
           have q46:((c1.toNat:Int) == 46)=false:=by simp;omega
           have q46' : ¬(c1.toNat:Int)=46:=by omega
           by_cases hdg:isD c1=true
           · rw [if_pos hdg,<-hd1.out] at hscan
             have hdr:48<=c1.toNat/\c1.toNat<=57:=by simp [isD] at hdg;exact hdg
             have r1:(48:Int)<=(c1.toNat:Int):=by omega
             have r2:(c1.toNat:Int)<=57:=by omega
             have hMd1:∀b∈M++[c1],isD b=true:=fun b hb=>by
               rw [List.mem_append,List.mem_singleton] at hb;rcases hb with hb | hb
               · exact hMd.out b hb
               · rw [hb];exact hdg
             replace hMd1:=Hd hMd1;replace hscan:=Hd hscan;have hne1:decide (M++[c1]≠[])=true:=decide_eq_true (by simp);replace hne1:=Hd hne1;clear hlow1;by_cases hz0:c1.toNat=48/\nd=0
             · have z1' : ((c1.toNat:Int) == 48)=true:=by simp;omega
               have hc48:c1=48:=UInt8.toNat_inj.1 hz0.1;have hzz:=ndF_zero (l:=M) (by rw [<-hnd.out];exact hz0.2);rw [<-hc48] at hzz;obtain ⟨hz1,hz2⟩:=hz0;have z3:(c1.toNat:Int)=48:=by omega
               have hst0:A0 (M++[c1])=[]:=List.eq_nil_of_length_eq_zero hzz.1;have hDp:=hD.setP (dp - 1);have hn0i:(nd:Int)=0:=by omega
               have hdd:dp - 1=((ndF (M++[c1]):Nat):Int) - ((j+1:Nat):Int):=by rw [hzz.1];have:=hdp.out;omega
               have hn00:ndF (M++[c1])=nd:=by rw [hzz.1,hz2]
               have hDfin:∃g', DM (wr.setCell ⟨b,801,none⟩ (.int .i64 (dp - 1))) b g' (ndF (M++[c1])) ((ndF (M++[c1]):Int) - ((j+1:Nat):Int)) neg false/\row g' (ndF (M++[c1]))=A0 (M++[c1]):=by
                 refine ⟨g,?_,?_⟩
                 · rw [<-hdd,hn00];exact hDp
                 · rw [hzz.1,hst0];rfl
               replace hDfin:=Hd hDfin;replace hDp:=Hd hDp;replace hdd:=Hd hdd;replace hn00:=Hd hn00;replace hst0:=Hd hst0;replace hzz:=Hd hzz;replace hc48:=Hd hc48;replace hD:=Hd hD;replace hF:=Hd hF;clear hz1 h46;rw [hz2] at c0;replace hz2:=Hd hz2;go_wp2_with fail
               go_round
               case rel=>exact ⟨k+1,e,M++[c1],j+1,by go_num,rfl,by rw [hne1.out],by omega,by omega,by simp;omega,hMd1.out,hkok1.out,hscan.out,hDfin.out,hF.out.setCell (fun _=>rfl) _⟩
               case measure=>simp [intOf];omega
             · have hor:c1≠48\/ndF M≠0:=by
                 rw [<-hnd.out];by_cases h48:c1.toNat=48
                 · right;intro e0;exact hz0 ⟨h48,e0⟩
                 · left;intro e0;exact h48 (by rw [e0];rfl)
               obtain ⟨s1,_,_⟩:=ndF_snoc hor;rw [<-hnd.out] at s1;have hst:A0 (M++[c1])=A0 M++[c1]:=stripL_snoc (by
                 rcases hor with h9 | h9
                 · exact .inl h9
                 · right;intro e0;apply h9;unfold ndF;rw [e0];rfl)
               have hn8:nd<800:=by omega
               have hcd:=hD.dig nd hn8;have zd:=hD.blk.frz nd none;have hput:=(hD.put hn8 c1).setN (nd+1);have hn8i:(nd:Int)<800:=by omega
               have hn1:(nd:Int)+1=((nd+1:Nat):Int):=by omega
               have hDfin:∃g', DM ((wr.setCell ⟨b,nd,none⟩ (.int .u8 (c1.toNat:Int))).setCell ⟨b,800,none⟩ (.int .i64 ((nd:Int)+1))) b g' (ndF (M++[c1])) ((ndF (M++[c1]):Int) - ((j+1:Nat):Int)) neg false/\row g' (ndF (M++[c1]))=A0 (M++[c1]):=by
                 refine ⟨stF g nd c1,?_,?_⟩
                 · have e9:((ndF (M++[c1]):Nat):Int) - ((j+1:Nat):Int)=dp:=by rw [s1];have:=hdp.out;omega
                   rw [e9,s1,hn1];exact hput
                 · rw [s1,hst,row_put,hrow.out]
               have hFfin:=(hF.setCell (p:=⟨b,nd,none⟩) (fun _=>rfl) (.int .u8 (c1.toNat:Int))).setCell (p:=⟨b,800,none⟩) (fun _=>rfl) (.int .i64 ((nd:Int)+1));have hcn:¬((c1.toNat:Int)=48/\(nd:Int)=0):=by omega
               replace hDfin:=Hd hDfin;replace hFfin:=Hd hFfin;replace hput:=Hd hput;replace s1:=Hd s1;replace hst:=Hd hst;replace hor:=Hd hor;replace hD:=Hd hD;replace hF:=Hd hF;replace hn1:=Hd hn1;clear h46 hz0;by_cases h48:c1.toNat=48
               · have z1' : ((c1.toNat:Int) == 48)=true:=by simp;omega
                 have z2' : ((nd:Int) == 0)=false:=by rw [beq_eq_false_iff_ne];omega
                 clear hcn h48;go_upto_region 25 with fail
                 go_region
                 go_wp2_with fail
                 go_round
                 case rel=>exact ⟨k+1,e,M++[c1],j+1,by go_num,rfl,by rw [hne1.out],by omega,by omega,by simp;omega,hMd1.out,hkok1.out,hscan.out,(by obtain ⟨g', x1,x2⟩:=hDfin.out;exact ⟨g', x1.drewN 1,x2⟩),hFfin.out.drew⟩
                 case measure=>simp [intOf];omega
               · have z1' : ((c1.toNat:Int) == 48)=false:=by rw [beq_eq_false_iff_ne];omega
                 clear hcn h48;go_upto_region 25 with fail
                 go_region
                 go_wp2_with fail
                 go_round
                 case rel=>exact ⟨k+1,e,M++[c1],j+1,by go_num,rfl,by rw [hne1.out],by omega,by omega,by simp;omega,hMd1.out,hkok1.out,hscan.out,(by obtain ⟨g', x1,x2⟩:=hDfin.out;exact ⟨g', x1.drewN 1,x2⟩),hFfin.out.drew⟩
                 case measure=>simp [intOf];omega
           · rw [if_neg hdg] at hscan
             simp only [Prod.mk.injEq] at hscan;obtain ⟨rfl,rfl,rfl,hr0⟩:=hscan;have h101:c1.toNat=101:=by
               have hx:=hex.out;rw [<-hr0] at hx;cases hx<;>rfl
             have hKk:K=k:=by
               have h1:=congrArg List.length hl.out;rw [List.length_drop,<-Aj,hr0] at h1;rw [hK.out];omega
             have r1:(48:Int)<=(c1.toNat:Int):=by omega
             have r2:¬(c1.toNat:Int)<=57:=by omega
             replace hr0:=Hd hr0;replace hKk:=Hd hKk;replace hD:=Hd hD;replace hF:=Hd hF;clear hlow1;go_wp2_with fail
             go_meet
             exact ⟨by rw [hKk.out],rfl,by rw [hnz.out,decide_eq_true hne.out],⟨g,by have:=hD.out;rw [hdp.out,hnd.out] at this;exact this,by rw [<-hnd.out];exact hrow.out⟩,hF.out⟩
   case rest=>
     clear hD hF;obtain ⟨rfl,rfl,rfl,⟨g,hD,hrow⟩,hF⟩:=hcut
     rename World=>wt
     obtain ⟨nd,hnd⟩:∃nd,nd=ndF L:=⟨_,rfl⟩;obtain ⟨dp,hdp⟩:∃dp:Int,dp=(nd:Int) - m:=⟨_,rfl⟩;obtain ⟨dq,hdq⟩:∃dq:Int,dq=if d then dp else (nd:Int):=⟨_,rfl⟩;rw [<-hnd] at hD hrow;rw [<-hdp] at hD;have hdec:decN d L m x=⟨A0 L,dq+x,false⟩:=by unfold decN;rw [<-hnd,<-hdp,hdq]
     have hndl:(A0 L).length=nd:=by rw [hnd];rfl
     have hLs:nd<=700/\m<=700:=by
       have h1:=C3 hsc.out;have h2:=congrArg List.length hda.out;rw [List.length_drop,<-Aj] at h2;have h3:nd<=L.length:=by rw [hnd];exact Co L
       simp only [List.length_nil] at h1;omega
     have hdp9:-1000<=dp/\dp<=1000:=by omega
     have hdq9:-1000<=dq/\dq<=1000:=by rw [hdq];split<;>omega
     have hx9:-100000<=x/\x<=100000:=by
       have hx:=hex.out;clear hex hKd hsc;cases hx with
       | none=>omega
       | bare h1 h2=>have:=Cs h2;omega
       | plus h1 h2=>have:=Cs h2;omega
       | minus h1 h2=>have:=Cs h2;omega
     have c0:=hD.nd;have c1:=hD.pt;have z1:=hD.blk.frz 801 none;have hDq:=hD.setP (nd:Int);have hFq:=Fr.setCell (p:=⟨b,801,none⟩) hF (fun _=>rfl) (.int .i64 (nd:Int));replace hnd:=Hd hnd;replace hdp:=Hd hdp;replace hdq:=Hd hdq;replace hdec:=Hd hdec;replace hndl:=Hd hndl;replace hrow:=Hd hrow;replace hDq:=Hd hDq;replace hFq:=Hd hFq;replace hD:=Hd hD;replace hF:=Hd hF
     go_upto_if 120 with fail
     go_cut [] from 121 to 127 (fun wx=>DM wx b g nd dq neg false/\Fr (fun k=>k=b) w wx)
     case first=>
       cases d
       · have e1:dq=(nd:Int):=hdq.out
         replace e1:=Hd e1;go_wp2_with fail
         go_meet
         exact ⟨by rw [e1.out];exact hDq.out,hFq.out⟩
       · have e1:dq=dp:=hdq.out
         replace e1:=Hd e1;go_wp2_with fail
         go_meet
         exact ⟨by rw [e1.out];exact hD.out,hF.out⟩
     case rest=>
       clear c0 c1 z1 hDq hFq hD hF;obtain ⟨hD,hF⟩:=hcut
       rename World=>wu
       have c1:=hD.pt;have z1:=hD.blk.frz 801 none;have hDp:=fun q=>hD.setP q;have hFp:=fun q=>Fr.setCell (p:=⟨b,801,none⟩) hF (fun _=>rfl) (.int .i64 q);replace hDp:=Hd hDp;replace hFp:=Hd hFp;replace hD:=Hd hD;replace hF:=Hd hF;go_upto_region 32 with fail
       go_cut [138] from 128 to 138 (fun s138 wx=>s138=.bool (!rest.isEmpty)/\wx=wu)
       case first=>
         cases hr:rest with
         | nil=>
           have hk1:=Cg (hr ▸ hKd.out.2);have hlt:¬(K:Int)<(s.size:Int):=by omega
           clear hk1;replace hr:=Hd hr;go_wp2_with fail
           go_meet
           exact ⟨by rw [hr.out];rfl,rfl⟩
         | cons c1 l1=>
           obtain ⟨hlt,hc1,_⟩:=Ah (hr ▸ hKd.out.2);have h101:c1.toNat=101:=by
             have hx:=hex.out;rw [hr] at hx;cases hx<;>rfl
           have hok1:okC c1:=.inr (.inr (.inl h101));have q1:((c1.toNat:Int) == 101)=true:=by simp [h101]
           have hlti:(K:Int)<(s.size:Int):=by omega
           replace hr:=Hd hr;replace hok1:=Hd hok1;clear h101;go_wp2_with fail
           refine (Gd hok1.out _).mono ?_;rintro e w' ⟨rfl,hww⟩;obtain rfl:=hww.symm;clear hww;go_wp2_with fail
           go_meet
           exact ⟨by rw [hr.out];rfl,rfl⟩
       case rest=>
         obtain ⟨rfl,hww⟩:=hcut;obtain rfl:=hww.symm;clear hww
         go_upto_if 138 with fail
         go_cut [5,8,9] from 139 to 219 (fun s5 _ _ wx=>s5=.int .i64 (s.size:Int)/\DM wx b g nd (dq+x) neg false/\Fr (fun k=>k=b) w wx)
         case first=>
           have hx:=hex.out;have hK2:=hKd.out;clear hex hKd hsc;cases hx with
           | none=>
             have hk1:=Cg hK2.2;have hks:(K:Int)=(s.size:Int):=by omega
             replace hks:=Hd hks;clear hk1 hK2;go_wp2_with fail
             go_meet
             exact ⟨by rw [hks.out],by rw [Int.add_zero];exact hD.out,hF.out⟩
           | @bare E hEne hEd=>
             obtain ⟨hltK,hcK,hdK⟩:=Ah hK2.2;have hKi:(K:Int)+1=((K+1:Nat):Int):=by omega
             have hK9:(K:Int)<=1000:=by omega
             clear hK2;obtain ⟨q,hq⟩:∃q:Nat,q=K+1:=⟨_,rfl⟩;rw [<-hq] at hdK hKi;replace hq:=Hd hq;have hE0:s.data.toList.drop q=E:=hdK;cases hEE:E with
             | nil=>exact absurd hEE hEne
             | cons c2 E2=>
               rw [hEE] at hE0;obtain ⟨hlt2,hc2,hd2⟩:=Ah hE0;have hg2:48<=c2.toNat/\c2.toNat<=57:=by
                 have:=hEd c2 (by rw [hEE];exact List.mem_cons_self ..);simp [isD] at this;exact this
               have y0:((q:Nat):Int)<(s.size:Int):=by omega
               have y1:¬(c2.toNat:Int)<48:=by omega
               have y2:¬(57:Int)<(c2.toNat:Int):=by omega
               have y3:((c2.toNat:Int) == 43)=false:=by simp;omega
               have y4:((c2.toNat:Int) == 45)=false:=by simp;omega
               rw [<-hEE] at hE0;have hqs:q+E.length=s.size:=by
                 have h1:=congrArg List.length hE0;rw [List.length_drop,<-Aj] at h1;omega
               replace hE0:=Hd hE0;replace hEE:=Hd hEE;replace hEd:=Hd hEd;replace hEne:=Hd hEne;replace hd2:=Hd hd2;replace hqs:=Hd hqs;go_wp2_with fail
               go_loop [5,9] (fun s5 s9=>∃j:Nat,j<=E.length/\s5=.int .i64 ((q+j:Nat):Int)/\s9=.int .i64 (capE (E.take j):Int)) (fun i _=>s.size - (intOf i).toNat)
               case atStart=>exact ⟨0,Nat.zero_le _,rfl,rfl⟩
               case round=>
                 obtain ⟨j,hj,rfl,rfl⟩:=hrel;obtain ⟨i,hi⟩:∃i:Nat,i=q+j:=⟨_,rfl⟩;obtain ⟨e,hee⟩:∃e:Nat,e=capE (E.take j):=⟨_,rfl⟩;have he9:e<100000:=by rw [hee];exact Cs (fun b hb=>hEd.out b (List.mem_of_mem_take hb))
                 rw [<-hi,<-hee];replace hi:=Hd hi;replace hee:=Hd hee;by_cases hjl:j<E.length
                 · have hdj:s.data.toList.drop i=E[j] :: E.drop (j+1):=by
                     rw [hi.out,<-List.drop_drop,hE0.out];exact List.drop_eq_getElem_cons hjl
                   obtain ⟨cj,hcj⟩:∃cj,cj=E[j]:=⟨_,rfl⟩;rw [<-hcj] at hdj;obtain ⟨hltj,hcj2,_⟩:=Ah hdj;have hgj:48<=cj.toNat/\cj.toNat<=57:=by
                     have:=hEd.out cj (by rw [hcj];exact List.getElem_mem hjl);simp [isD] at this;exact this
                   have x0:(i:Int)<(s.size:Int):=by omega
                   have x1:(48:Int)<=(cj.toNat:Int):=by omega
                   have x2:(cj.toNat:Int)<=57:=by omega
                   have x3:((cj.toNat:Int) == 95)=false:=by simp;omega
                   have x3' : ¬(cj.toNat:Int)=95:=by omega
                   have htk:E.take (j+1)=E.take j++[cj]:=by rw [List.take_succ_eq_append_getElem hjl,hcj]
                   have hcs:=Do (E.take j) cj;rw [<-htk,<-hee.out] at hcs;replace hcs:=Hd hcs;replace hdj:=Hd hdj;replace hcj:=Hd hcj;clear htk;by_cases hcap:e<10000
                   · have x4:(e:Int)<10000:=by omega
                     have x5:((capE (E.take (j+1)):Nat):Int)=(e:Int) * 10+(cj.toNat:Int) - 48:=by
                       rw [hcs.out,if_pos hcap];unfold dv;omega
                     replace x5:=Hd x5;go_wp2_with fail
                     go_round
                     case rel=>exact ⟨j+1,by omega,by rw [hi.out];go_num,by rw [x5.out]⟩
                     case measure=>have:=hi.out;have:=hqs.out;simp [intOf];omega
                   · have x4:¬(e:Int)<10000:=by omega
                     have x5:((capE (E.take (j+1)):Nat):Int)=(e:Int):=by rw [hcs.out,if_neg hcap]
                     replace x5:=Hd x5;go_wp2_with fail
                     go_round
                     case rel=>exact ⟨j+1,by omega,by rw [hi.out];go_num,by rw [x5.out]⟩
                     case measure=>have:=hi.out;have:=hqs.out;simp [intOf];omega
                 · have hje:j=E.length:=by omega
                   have his:s.size=i:=by rw [hi.out,hje];exact hqs.out.symm
                   have hce:e=capE E:=by rw [hee.out,hje,List.take_length]
                   have x0:¬(i:Int)<(s.size:Int):=by omega
                   have x6:(i:Int)=(s.size:Int):=by omega
                   replace his:=Hd his;replace hce:=Hd hce;replace x6:=Hd x6;clear hje;go_wp2_with fail
                   go_meet
                   exact ⟨by rw [x6.out],by rw [<-hce.out];exact hDp.out _,hFp.out _⟩
           | @plus E hEne hEd=>
             obtain ⟨hltK,hcK,hdK⟩:=Ah hK2.2;obtain ⟨hltK1,hcK1,hdK1⟩:=Ah hdK;have e43:((43:UInt8).toNat:Int)=43:=rfl;have hK9:(K:Int)<=998:=by omega
             have hK1i:(K:Int)+1<(s.size:Int):=by omega
             clear hK2;obtain ⟨q,hq⟩:∃q:Nat,q=K+1+1:=⟨_,rfl⟩;have hKi:(K:Int)+1+1=(q:Int):=by omega
             rw [<-hq] at hdK1;replace hq:=Hd hq;have hE0:s.data.toList.drop q=E:=hdK1;cases hEE:E with
             | nil=>exact absurd hEE hEne
             | cons c2 E2=>
               rw [hEE] at hE0;obtain ⟨hlt2,hc2,hd2⟩:=Ah hE0;have hg2:48<=c2.toNat/\c2.toNat<=57:=by
                 have:=hEd c2 (by rw [hEE];exact List.mem_cons_self ..);simp [isD] at this;exact this
               have y0:((q:Nat):Int)<(s.size:Int):=by omega
               have y1:¬(c2.toNat:Int)<48:=by omega
               have y2:¬(57:Int)<(c2.toNat:Int):=by omega
               have y3:((c2.toNat:Int) == 43)=false:=by simp;omega
               have y4:((c2.toNat:Int) == 45)=false:=by simp;omega
               rw [<-hEE] at hE0;have hqs:q+E.length=s.size:=by
                 have h1:=congrArg List.length hE0;rw [List.length_drop,<-Aj] at h1;omega
               replace hE0:=Hd hE0;replace hEE:=Hd hEE;replace hEd:=Hd hEd;replace hEne:=Hd hEne;replace hd2:=Hd hd2;replace hqs:=Hd hqs;go_wp2_with fail
               go_loop [5,9] (fun s5 s9=>∃j:Nat,j<=E.length/\s5=.int .i64 ((q+j:Nat):Int)/\s9=.int .i64 (capE (E.take j):Int)) (fun i _=>s.size - (intOf i).toNat)
               case atStart=>exact ⟨0,Nat.zero_le _,rfl,rfl⟩
               case round=>
                 obtain ⟨j,hj,rfl,rfl⟩:=hrel;obtain ⟨i,hi⟩:∃i:Nat,i=q+j:=⟨_,rfl⟩;obtain ⟨e,hee⟩:∃e:Nat,e=capE (E.take j):=⟨_,rfl⟩;have he9:e<100000:=by rw [hee];exact Cs (fun b hb=>hEd.out b (List.mem_of_mem_take hb))
                 rw [<-hi,<-hee];replace hi:=Hd hi;replace hee:=Hd hee;by_cases hjl:j<E.length
                 · have hdj:s.data.toList.drop i=E[j] :: E.drop (j+1):=by
                     rw [hi.out,<-List.drop_drop,hE0.out];exact List.drop_eq_getElem_cons hjl
                   obtain ⟨cj,hcj⟩:∃cj,cj=E[j]:=⟨_,rfl⟩;rw [<-hcj] at hdj;obtain ⟨hltj,hcj2,_⟩:=Ah hdj;have hgj:48<=cj.toNat/\cj.toNat<=57:=by
                     have:=hEd.out cj (by rw [hcj];exact List.getElem_mem hjl);simp [isD] at this;exact this
                   have x0:(i:Int)<(s.size:Int):=by omega
                   have x1:(48:Int)<=(cj.toNat:Int):=by omega
                   have x2:(cj.toNat:Int)<=57:=by omega
                   have x3:((cj.toNat:Int) == 95)=false:=by simp;omega
                   have x3' : ¬(cj.toNat:Int)=95:=by omega
                   have htk:E.take (j+1)=E.take j++[cj]:=by rw [List.take_succ_eq_append_getElem hjl,hcj]
                   have hcs:=Do (E.take j) cj;rw [<-htk,<-hee.out] at hcs;replace hcs:=Hd hcs;replace hdj:=Hd hdj;replace hcj:=Hd hcj;clear htk;by_cases hcap:e<10000
                   · have x4:(e:Int)<10000:=by omega
                     have x5:((capE (E.take (j+1)):Nat):Int)=(e:Int) * 10+(cj.toNat:Int) - 48:=by
                       rw [hcs.out,if_pos hcap];unfold dv;omega
                     replace x5:=Hd x5;go_wp2_with fail
                     go_round
                     case rel=>exact ⟨j+1,by omega,by rw [hi.out];go_num,by rw [x5.out]⟩
                     case measure=>have:=hi.out;have:=hqs.out;simp [intOf];omega
                   · have x4:¬(e:Int)<10000:=by omega
                     have x5:((capE (E.take (j+1)):Nat):Int)=(e:Int):=by rw [hcs.out,if_neg hcap]
                     replace x5:=Hd x5;go_wp2_with fail
                     go_round
                     case rel=>exact ⟨j+1,by omega,by rw [hi.out];go_num,by rw [x5.out]⟩
                     case measure=>have:=hi.out;have:=hqs.out;simp [intOf];omega
                 · have hje:j=E.length:=by omega
                   have his:s.size=i:=by rw [hi.out,hje];exact hqs.out.symm
                   have hce:e=capE E:=by rw [hee.out,hje,List.take_length]
                   have x0:¬(i:Int)<(s.size:Int):=by omega
                   have x6:(i:Int)=(s.size:Int):=by omega
                   replace his:=Hd his;replace hce:=Hd hce;replace x6:=Hd x6;clear hje;go_wp2_with fail
                   go_meet
                   exact ⟨by rw [x6.out],by rw [<-hce.out];exact hDp.out _,hFp.out _⟩
           | @minus E hEne hEd=>
             obtain ⟨hltK,hcK,hdK⟩:=Ah hK2.2;obtain ⟨hltK1,hcK1,hdK1⟩:=Ah hdK;have e43:((45:UInt8).toNat:Int)=45:=rfl;have hK9:(K:Int)<=998:=by omega
             have hK1i:(K:Int)+1<(s.size:Int):=by omega
             clear hK2;obtain ⟨q,hq⟩:∃q:Nat,q=K+1+1:=⟨_,rfl⟩;have hKi:(K:Int)+1+1=(q:Int):=by omega
             rw [<-hq] at hdK1;replace hq:=Hd hq;have hE0:s.data.toList.drop q=E:=hdK1;cases hEE:E with
             | nil=>exact absurd hEE hEne
             | cons c2 E2=>
               rw [hEE] at hE0;obtain ⟨hlt2,hc2,hd2⟩:=Ah hE0;have hg2:48<=c2.toNat/\c2.toNat<=57:=by
                 have:=hEd c2 (by rw [hEE];exact List.mem_cons_self ..);simp [isD] at this;exact this
               have y0:((q:Nat):Int)<(s.size:Int):=by omega
               have y1:¬(c2.toNat:Int)<48:=by omega
               have y2:¬(57:Int)<(c2.toNat:Int):=by omega
               have y3:((c2.toNat:Int) == 43)=false:=by simp;omega
               have y4:((c2.toNat:Int) == 45)=false:=by simp;omega
               rw [<-hEE] at hE0;have hqs:q+E.length=s.size:=by
                 have h1:=congrArg List.length hE0;rw [List.length_drop,<-Aj] at h1;omega
               replace hE0:=Hd hE0;replace hEE:=Hd hEE;replace hEd:=Hd hEd;replace hEne:=Hd hEne;replace hd2:=Hd hd2;replace hqs:=Hd hqs;go_wp2_with fail
               go_loop [5,9] (fun s5 s9=>∃j:Nat,j<=E.length/\s5=.int .i64 ((q+j:Nat):Int)/\s9=.int .i64 (capE (E.take j):Int)) (fun i _=>s.size - (intOf i).toNat)
               case atStart=>exact ⟨0,Nat.zero_le _,rfl,rfl⟩
               case round=>
                 obtain ⟨j,hj,rfl,rfl⟩:=hrel;obtain ⟨i,hi⟩:∃i:Nat,i=q+j:=⟨_,rfl⟩;obtain ⟨e,hee⟩:∃e:Nat,e=capE (E.take j):=⟨_,rfl⟩;have he9:e<100000:=by rw [hee];exact Cs (fun b hb=>hEd.out b (List.mem_of_mem_take hb))
                 rw [<-hi,<-hee];replace hi:=Hd hi;replace hee:=Hd hee;by_cases hjl:j<E.length
                 · have hdj:s.data.toList.drop i=E[j] :: E.drop (j+1):=by
                     rw [hi.out,<-List.drop_drop,hE0.out];exact List.drop_eq_getElem_cons hjl
                   obtain ⟨cj,hcj⟩:∃cj,cj=E[j]:=⟨_,rfl⟩;rw [<-hcj] at hdj;obtain ⟨hltj,hcj2,_⟩:=Ah hdj;have hgj:48<=cj.toNat/\cj.toNat<=57:=by
                     have:=hEd.out cj (by rw [hcj];exact List.getElem_mem hjl);simp [isD] at this;exact this
                   have x0:(i:Int)<(s.size:Int):=by omega
                   have x1:(48:Int)<=(cj.toNat:Int):=by omega
                   have x2:(cj.toNat:Int)<=57:=by omega
                   have x3:((cj.toNat:Int) == 95)=false:=by simp;omega
                   have x3' : ¬(cj.toNat:Int)=95:=by omega
                   have htk:E.take (j+1)=E.take j++[cj]:=by rw [List.take_succ_eq_append_getElem hjl,hcj]
                   have hcs:=Do (E.take j) cj;rw [<-htk,<-hee.out] at hcs;replace hcs:=Hd hcs;replace hdj:=Hd hdj;replace hcj:=Hd hcj;clear htk;by_cases hcap:e<10000
                   · have x4:(e:Int)<10000:=by omega
                     have x5:((capE (E.take (j+1)):Nat):Int)=(e:Int) * 10+(cj.toNat:Int) - 48:=by
                       rw [hcs.out,if_pos hcap];unfold dv;omega
                     replace x5:=Hd x5;go_wp2_with fail
                     go_round
                     case rel=>exact ⟨j+1,by omega,by rw [hi.out];go_num,by rw [x5.out]⟩
                     case measure=>have:=hi.out;have:=hqs.out;simp [intOf];omega
                   · have x4:¬(e:Int)<10000:=by omega
                     have x5:((capE (E.take (j+1)):Nat):Int)=(e:Int):=by rw [hcs.out,if_neg hcap]
                     replace x5:=Hd x5;go_wp2_with fail
                     go_round
                     case rel=>exact ⟨j+1,by omega,by rw [hi.out];go_num,by rw [x5.out]⟩
                     case measure=>have:=hi.out;have:=hqs.out;simp [intOf];omega
                 · have hje:j=E.length:=by omega
                   have his:s.size=i:=by rw [hi.out,hje];exact hqs.out.symm
                   have hce:e=capE E:=by rw [hee.out,hje,List.take_length]
                   have x0:¬(i:Int)<(s.size:Int):=by omega
                   have x6:(i:Int)=(s.size:Int):=by omega
                   replace his:=Hd his;replace hce:=Hd hce;replace x6:=Hd x6;clear hje;go_wp2_with fail
                   go_meet
                   exact ⟨by rw [x6.out],by rw [<-hce.out];exact hDp.out _,hFp.out _⟩
         case rest=>
           obtain ⟨rfl,hD', hF'⟩:=hcut
           rename World=>wv
           have hfin:Dm wv b (decN d L m x) neg:=by
             rw [hdec.out];exact ⟨g,by rw [hndl.out];exact hD', by rw [hndl.out,hrow.out]⟩
           replace hfin:=Hd hfin;replace hD' := Hd hD';replace hF' := Hd hF';go_wp2;go_ret;exact ⟨rfl,hfin.out,hF'.out⟩
end Go.Proofs.YtagkgfniihiinaaGreatDoor
