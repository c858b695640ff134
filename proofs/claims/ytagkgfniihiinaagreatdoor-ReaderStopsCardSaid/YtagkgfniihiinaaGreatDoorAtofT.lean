/- internal/strconv.atof64 at a text of more than nineteen. -/
import Derived.Test.YtagkgfniihiinaaGreatDoorJ81
import Derived.Test.YtagkgfniihiinaaGreatDoorJ102
set_option linter.all false
set_option maxHeartbeats 6400000
set_option maxRecDepth 100000
namespace Go.Proofs.YtagkgfniihiinaaGreatDoor
open Go.RowKit
theorem fb_over {w0 w:World} {b:Nat} {d:Dec} {ng:Bool} (hw:Dn w0 w b) (h:Dm w b d ng) (hg:d.Good) (hp:310<d.dp) (hp2:d.dp<=1000000) :
  Calls Tryz.prog 209 #[.pointer (some ⟨b,0,none⟩),.pointer (some ⟨7,0,none⟩)] w fun e w' => e=.returned (.tuple #[.int .u64 ((fbR d+sgB ng:Nat):Int),.bool (decide (fbR d=9218868437227405312))])/\Fr (fun k=>k=b) w w' := by
 have i:d.L≠[]:=by obtain ⟨c,l,e,_⟩:=hg.head;rw [e];simp
 have a:fbR d=9218868437227405312:=by
  unfold fbR fbM;rw [if_neg i,if_pos hp]
 obtain ⟨f,hD,j⟩:=h;have c0:=hD.nd;have cp:=hD.pt;have c2:=hD.sg;have m:((d.L.length:Int) == 0)=false:=by rw [beq_eq_false_iff_ne];have:=hg.val.2;omega
 obtain ⟨nd,hnd⟩:∃nd,nd=d.L.length:=⟨_,rfl⟩;rw [<-hnd] at c0 m;obtain ⟨_,_,i0,i1,i2⟩:=hw.at;have o1:bits .and .u64 0 4503599627370495=0:=by decide +kernel
 have o2:bits .and .i64 2047 2047=2047:=by decide +kernel
 have o3:bits .or .u64 0 9218868437227405312=9218868437227405312:=by decide +kernel
 have o4:bits .or .u64 9218868437227405312 9223372036854775808=18442240474082181120:=by decide +kernel
 have g:Fr (fun k=>k=b) w w:=Fr.refl _ _;replace g:=Hd g;replace a:=Hd a;replace hnd:=Hd hnd;replace hD:=Hd hD;replace hw:=Hd hw;replace hg:=Hd hg;clear j i;cases ng
 ·go_enter Tryz.func209,Tryz.ntmps209
  go_wp2_with fail
  refine F9 rfl rfl ?_;go_wp2_with fail
  go_step3
  refine Or.inr ⟨rfl,?_⟩;show Code.wp _ _ _ _ _;go_upto_region 40 with fail
  go_quiet (fail)
  go_wp2_with fail
  go_step3
  go_upto_region 43 with fail
  go_quiet (fail)
  go_wp2_with fail
  rw [Exit.noGoto_ret];refine bodyPost_ret (v:=.tuple #[.int .u64 9218868437227405312,.bool true]) (by simp [results,Tryz.results209,go_sem]) rfl ⟨by rw [a.out];rfl,?_⟩;repeat (first | exact g.out | refine Fr.drewN ?_ _)
 ·go_enter Tryz.func209,Tryz.ntmps209
  go_wp2_with fail
  refine F9 rfl rfl ?_;go_wp2_with fail
  go_step3
  refine Or.inr ⟨rfl,?_⟩;show Code.wp _ _ _ _ _;go_upto_region 40 with fail
  go_quiet (fail)
  go_wp2_with fail
  go_step3
  go_upto_region 43 with fail
  go_quiet (fail)
  go_upto_region 45 with fail
  go_quiet (fail)
  go_wp2_with fail
  rw [Exit.noGoto_ret];refine bodyPost_ret (v:=.tuple #[.int .u64 18442240474082181120,.bool true]) (by simp [results,Tryz.results209,go_sem]) rfl ⟨by rw [a.out];rfl,?_⟩;repeat (first | exact g.out | refine Fr.drewN ?_ _)
def longR (d:Bool) (L:List UInt8) (m:Nat) (x:Int):Nat:=
 if B8 (Av L) (expF d L m x)=B8 (Av L+1) (expF d L m x) then B8 (Av L) (expF d L m x) else fbR (decN d L m x)
theorem sgB_order {neg:Bool} {a b:Nat} (ha:a<=9218868437227405312) (hb:b<=9218868437227405312):FloatKind.f64.format.order (sgB neg+a) (sgB neg+b)=some (if neg then compare (-(a:Int)) (-(b:Int)) else compare (a:Int) (b:Int)):=by
 have na:nanF (sgB neg+a)=false:=by cases neg<;>exact decide_eq_false (by unfold sgB;simp;omega)
 have nb:nanF (sgB neg+b)=false:=by cases neg<;>exact decide_eq_false (by unfold sgB;simp;omega)
 have hs:sgB neg<=9223372036854775808:=by cases neg<;>decide
 have:=Fv (x:=sgB neg+a) (y:=sgB neg+b) (by omega) (by omega) na nb;have ea:∀c,c<=9218868437227405312->sv (sgB neg+c)=if neg then -(c:Int) else (c:Int):=fun c hc=>by
  unfold sv sgB;cases neg
  ·rw [if_neg (by simp;omega)];simp
  ·rw [if_pos (by simp)];simp
 rw [ea a ha,ea b hb] at this;cases neg<;>exact this
def decZ:Array Value:=Array.replicate 800 (.int .u8 0)++#[.int .i64 0,.int .i64 0,.bool false,.bool false]
theorem zeroDec (w:World):(zeroValue 200).run Tryz.prog w=.ok (.agg decZ) w:=by kernel_rfl
theorem dm_new (w:World):DM (w.alloc (.cells decZ 200)) w.heap.size (fun _=>0) 0 0 false false:=by
 have b:(Array.replicate 800 (Value.int .u8 0)).size=800:=Array.size_replicate;have a:∀j v,(#[.int .i64 0,.int .i64 0,.bool false,.bool false]:Array Value)[j]?=some v->decZ[800+j]?=some v:=fun j v h=>by
  unfold decZ;rw [Array.getElem?_append_right (by rw [b];omega),b,Nat.add_sub_cancel_left];exact h
 refine ⟨Blk.new _ _ _,fun i hi=>?_,?_,?_,?_,?_⟩
 ·rw [World.cell?_alloc_at _ _ _ _ (by simp)]
  show decZ[i]?=_;unfold decZ;rw [Array.getElem?_append_left (by rw [b];exact hi),Array.getElem?_replicate,if_pos hi];rfl
 ·rw [World.cell?_alloc_at _ _ _ _ (by simp)];exact a 0 _ rfl
 ·rw [World.cell?_alloc_at _ _ _ _ (by simp)];exact a 1 _ rfl
 ·rw [World.cell?_alloc_at _ _ _ _ (by simp)];exact a 2 _ rfl
 ·rw [World.cell?_alloc_at _ _ _ _ (by simp)];exact a 3 _ rfl
theorem scanM_dig:∀{l:List UInt8} {d:Bool} {L:List UInt8} {m:Nat} {d' : Bool} {L' : List UInt8} {m' : Nat} {r:List UInt8},(∀c∈L,isD c=true)->Cg l d L m=(d', L', m', r)->∀c∈L', isD c=true
 | [],d,L,m,d', L', m', r,hL,h=>by
  simp only [Cg,Prod.mk.injEq] at h;rw [<-h.2.1];exact hL
 | c :: l,d,L,m,d', L', m', r,hL,h=>by
  rw [Cg] at h;split at h
  ·split at h
   ·simp only [Prod.mk.injEq] at h
    rw [<-h.2.1];exact hL
   ·exact scanM_dig hL h
  ·split at h
   ·rename_i hd
    refine scanM_dig (fun b hb=>?_) h;rw [List.mem_append,List.mem_singleton] at hb;rcases hb with hb | hb
    ·exact hL b hb
    ·rw [hb];exact hd
   ·simp only [Prod.mk.injEq] at h
    rw [<-h.2.1];exact hL
theorem txt_dig {s:ByteArray} {neg d:Bool} {L:List UInt8} {m:Nat} {x:Int} (h:FTxt s neg d L m x):(∀c∈L,isD c=true)/\L.length<=s.size:=by
 obtain ⟨⟨c,body,rest,hs,hc,a,_⟩,_,_⟩:=h;refine ⟨scanM_dig (fun c hc=>by cases hc) a,?_⟩;have h1:=(Dq a).1;have h2:=congrArg List.length hs;rw [<-Ai,List.length_append] at h2;simp only [List.length_nil] at h1;omega
theorem expF_low {s:ByteArray} {neg d:Bool} {L:List UInt8} {m:Nat} {x:Int} (h:FTxt s neg d L m x) (hz:s.size<=700) (h0:Av L≠0) (ht:Bd L=true):(decN d L m x).Good/\(decN d L m x).dp=expF d L m x+19:=by
 obtain ⟨hd,hl⟩:=txt_dig h;have hn:19<ndF L:=by
  rcases Nat.lt_or_ge 19 (ndF L) with h9 | h9
  ·exact h9
  ·unfold Bd at ht
   rw [List.drop_eq_nil_of_le h9] at ht;cases ht
 have a:A1 L≠[]:=fun e=>by
  have:ndF L=0:=by unfold ndF;rw [e];rfl
  omega
 refine ⟨⟨fun c hc=>hd c (stripL_mem hc),?_,?_⟩,?_⟩
 ·have:=C3 L
  show (A1 L).length<=800;omega
 ·obtain ⟨c,l,e,hc⟩:=stripL_head a
  exact ⟨c,l,e,hc⟩
 ·unfold expF
  rw [if_neg h0,Nat.min_eq_left (by omega)];show (if d then (ndF L:Int) - m else ndF L)+x=_;omega
theorem atof_trunc {s:ByteArray} {neg d:Bool} {L:List UInt8} {m:Nat} {x p:Int} (h:FTxt s neg d L m x) (hz7:s.size<=700) (h0:0<Av L) (h1:Av L<10000000000000000000) (ht:Bd L=true) (hx:expF d L m x=p) (hp1:-345<=p) (hp2:p<=310) {w:World} (hP:Par w) (hW:Pows w) (hS:Slow w) :
  Calls Tryz.prog 164 #[.string s] w fun e w' => e=.returned (.tuple #[.float .f64 (sgB neg+longR d L m x),.int .i64 (s.size:Int),Bn (longR d L m x)])/\Below w.heap.size w w' := by
 have u:=fun (W:World) (b:Nat) (hD:DM W b (fun _=>0) 0 0 false false)=>set_any h hz7 hD;obtain ⟨hG,ac⟩:=expF_low h hz7 (by omega) ht;have a:longR d L m x=if B8 (Av L) p=B8 (Av L+1) p then B8 (Av L) p else fbR (decN d L m x):=by unfold longR;rw [hx]
 rw [hx] at ac;have ad:=C7 h w;obtain ⟨⟨c,body,rest,hs,hc,_⟩,az,_⟩:=h;have an:=D8 hs hc az w;rw [ht,hx] at ad;obtain ⟨mt,hmt⟩:∃mt,Av L=mt:=⟨_,rfl⟩;rw [hmt] at ad h0 h1 a;have r:=parse64_any (sb:=neg) h0 (by omega) hp1 hp2 hW;have f:=fun (W:World) (hW:Pows W)=>parse64_any (sb:=neg) (d:=mt+1) (by omega) (by omega) hp1 hp2 hW;have ak:B8 mt p<=9218868437227405312:=by
  obtain ⟨R,_,hR⟩:=Fs h0 (by omega) (p:=p) (by omega) (by omega);rw [hR];exact Nat.min_le_right _ _
 have al:B8 (mt+1) p<=9218868437227405312:=by
  obtain ⟨R,_,hR⟩:=Fs (d:=mt+1) (by omega) (by omega) (p:=p) (by omega) (by omega);rw [hR];exact Nat.min_le_right _ _
 obtain ⟨dc,hdc⟩:∃dc,dc=decN d L m x:=⟨_,rfl⟩;rw [<-hdc] at u hG ac a;have ae:=(fb_lt dc (.inr hG)).1;obtain ⟨r1,hr1e⟩:∃r1,r1=B8 mt p:=⟨_,rfl⟩;obtain ⟨r2,hr2e⟩:∃r2,r2=B8 (mt+1) p:=⟨_,rfl⟩;obtain ⟨r3,hr3e⟩:∃r3,r3=fbR dc:=⟨_,rfl⟩;rw [<-hr1e] at r ak a;rw [<-hr2e] at f al a;rw [<-hr3e] at ae a;have g:=sgB_order (neg:=neg) ak al;obtain ⟨S,hSg⟩:∃S:Nat,S=sgB neg:=⟨_,rfl⟩;rw [<-hSg] at r f g ⊢;have hopt:=hP.opt;have hk1:¬(310:Int)<p:=by omega
 have hk2:¬p < -345:=by omega
 have hm0:((mt:Int) == 0)=false:=by rw [beq_eq_false_iff_ne];omega
 have hb:=Cj neg;have hsz2:(s.size:Int)<=1000:=by omega
 have ao:(S:Int)=(neg.toNat:Int) * 9223372036854775808:=by rw [hSg];cases neg<;>rfl
 rw [ao] at r f;have ay:neg.toNat<=1:=by cases neg<;>decide
 obtain ⟨nn,hnn⟩:∃nn:Nat,nn=neg.toNat:=⟨_,rfl⟩;rw [<-hnn] at ay hb r f;have av:((mt+1:Nat):Int)=(mt:Int)+1:=by omega
 rw [av] at f;obtain ⟨V1,hV1⟩:∃V,V=Bn r1:=⟨_,rfl⟩;obtain ⟨V2,hV2⟩:∃V,V=Bn r2:=⟨_,rfl⟩;rw [<-hV1] at r;rw [<-hV2] at f;obtain ⟨R,hR⟩:∃R,R=longR d L m x:=⟨_,rfl⟩;rw [<-hR] at a ⊢;obtain ⟨ER,hER⟩:∃ER,ER=Bn R:=⟨_,rfl⟩;rw [<-hER];replace hER:=Hd hER;have ap:s.extract 0 s.size=s:=by simp
 replace ad:=Hd ad;replace an:=Hd an;replace hb:=Hd hb;replace r:=Hd r;replace f:=Hd f;replace u:=Hd u;replace hG:=Hd hG;replace hR:=Hd hR;replace hV1:=Hd hV1;replace hV2:=Hd hV2;replace hr1e:=Hd hr1e;replace hr2e:=Hd hr2e;replace hr3e:=Hd hr3e;replace hdc:=Hd hdc;replace hSg:=Hd hSg;replace hnn:=Hd hnn;replace a:=Hd a;replace ao:=Hd ao;replace hW:=Hd hW;have aq:IntKind.u64.wrap ((mt:Int)+1)=(mt:Int)+1:=by simp [IntKind.wrap,IntKind.bits,IntKind.signed];omega
 replace aq:=Hd aq;replace ap:=Hd ap;replace h1:=Hd h1;replace hS:=Hd hS;replace ak:=Hd ak;replace al:=Hd al;replace ae:=Hd ae;replace g:=Hd g;replace ac:=Hd ac;clear hx ht hs hc hmt hP av
 go_enter Tryz.func164,Tryz.ntmps164
 go_wp2_with fail
 refine (an.out).mono ?_;rintro e w' ⟨rfl,t⟩;obtain rfl:=t.symm;clear t;go_wp2_with fail
 refine (ad.out).mono ?_;rintro e w' ⟨rfl,t⟩;obtain rfl:=t.symm;clear t;go_wp2_with fail
 refine (hb.out _).mono ?_;rintro e w' ⟨rfl,t⟩;obtain rfl:=t.symm;clear t;go_wp2_with fail
 refine r.out.mono ?_;rintro e w1 ⟨rfl,am⟩;have aw := Hd (f.out w1 (hW.out.below am hW.out.lt));have hwr' := aq.out;go_wp2_with fail
 refine aw.out.mono ?_;rintro e w2 ⟨rfl,ax⟩;have j:=Hd (am.trans (ax.mono am.size));clear am ax;by_cases hrr:r1=r2
 ·have n:R=r1:=by rw [a.out,if_pos hrr]
  have o:FloatKind.f64.format.order (S+r1) (S+r2)=some .eq:=by
   rw [g.out];cases neg
   ·simp only [Bool.false_eq_true,if_false];rw [Int.compare_eq_eq.2 (by omega)]
   ·simp only [if_true];rw [Int.compare_eq_eq.2 (by omega)]
  have ar:V1=ER:=by rw [hV1.out,hER.out,n]
  replace n:=Hd n;replace ar:=Hd ar;replace hrr:=Hd hrr;replace g:=Hd g;go_wp2;exact bodyPost_ret (v:=.tuple #[.float .f64 (S+r1),.int .i64 (s.size:Int),V1]) (by simp [results,Tryz.results164,go_sem]) rfl ⟨by rw [n.out,ar.out],j.out⟩
 ·have n:R=r3:=by rw [a.out,if_neg hrr]
  have o:FloatKind.f64.format.order (S+r1) (S+r2)=some .lt\/FloatKind.f64.format.order (S+r1) (S+r2)=some .gt:=by
   rw [g.out];rcases Nat.lt_or_gt_of_ne hrr with h9 | h9
   ·cases neg
    ·left;simp only [Bool.false_eq_true,if_false];rw [Int.compare_eq_lt.2 (by omega)]
    ·right;simp only [if_true];rw [Int.compare_eq_gt.2 (by omega)]
   ·cases neg
    ·right;simp only [Bool.false_eq_true,if_false];rw [Int.compare_eq_gt.2 (by omega)]
    ·left;simp only [if_true];rw [Int.compare_eq_lt.2 (by omega)]
  have hz:=zeroDec;obtain ⟨Z,hZ⟩:∃Z,Z=decZ:=⟨_,rfl⟩;rw [<-hZ] at hz;have af:∀W:World,DM (W.alloc (.cells Z 200)) W.heap.size (fun _=>0) 0 0 false false:=fun W=>by rw [hZ];exact dm_new W
  have hsx' := ap.out;replace af:=Hd af;replace hZ:=Hd hZ;replace n:=Hd n;replace hrr:=Hd hrr;replace g:=Hd g;have ag:=Hd (u.out _ _ (af.out w2));have z:Below w.heap.size w (w2.alloc (.cells Z 200)):=j.out.alloc j.out.size _;replace z:=Hd z;obtain ⟨G,hGe⟩:∃G:Nat,G=r3+S:=⟨_,rfl⟩;obtain ⟨OV,hOV⟩:∃OV:Bool,OV=decide (r3=9218868437227405312):=⟨_,rfl⟩;have y:∀W,Below w.heap.size w W->Dm W w2.heap.size dc neg->Calls Tryz.prog 209 #[.pointer (some ⟨w2.heap.size,0,none⟩),.pointer (some ⟨7,0,none⟩)] W fun e w' => e=.returned (.tuple #[.int .u64 (G:Int),.bool OV])/\Fr (fun k=>k=w2.heap.size) W w' := fun W hW' hD' => by
   have hn:Dn w W w2.heap.size:=⟨hS.out,hW', j.out.size⟩;rw [hGe,hOV,hr3e.out,hSg.out];by_cases h9:310<dc.dp
   ·exact fb_over hn hD' hG.out h9 (by have:=ac.out;omega)
   ·exact fb_any hn hD' hG.out (by have:=ac.out;omega) (by omega)
  have aa:S+R=G:=by rw [hGe,n.out];omega
  have ab:ER=if OV then .iface 155 (.int .i64 1) else .nilIface:=by
   rw [hER.out,n.out,hOV];unfold Bn;by_cases h9:r3=9218868437227405312
   ·rw [if_pos h9,decide_eq_true h9];rfl
   ·rw [if_neg h9,decide_eq_false h9];rfl
  have f1:∀w,(callFunc 211 #[.int .u64 (G:Int)]).run Tryz.prog w=.ok (.value (.float .f64 G)) w:=fun w=>Cl G w;replace y:=Hd y;replace aa:=Hd aa;replace ab:=Hd ab;replace hGe:=Hd hGe;replace hOV:=Hd hOV;rcases o with o | o
  ·go_wp2_with fail
   refine ag.out.mono ?_;rintro e w3 ⟨rfl,ah,ai⟩;have l:Below w.heap.size w w3:=z.out.trans (ai.below z.out.size (fun i hi e=>by have:=j.out.size;omega));have au:=Hd (y.out w3 l ah);replace l:=Hd l;clear ah ai;go_wp2_with fail
   refine au.out.mono ?_;rintro e w4 ⟨rfl,aj⟩;have q:Below w.heap.size w w4:=l.out.trans (aj.below l.out.size (fun i hi e=>by have:=j.out.size;omega));replace q:=Hd q;clear aj;cases OV
   ·go_wp2
    exact bodyPost_ret (v:=.tuple #[.float .f64 G,.int .i64 (s.size:Int),.nilIface]) (by simp [results,Tryz.results164,go_sem]) rfl ⟨by rw [aa.out,ab.out];rfl,q.out⟩
   ·go_wp2
    exact bodyPost_ret (v:=.tuple #[.float .f64 G,.int .i64 (s.size:Int),.iface 155 (.int .i64 1)]) (by simp [results,Tryz.results164,go_sem]) rfl ⟨by rw [aa.out,ab.out];rfl,q.out⟩
  ·go_wp2_with fail
   refine ag.out.mono ?_;rintro e w3 ⟨rfl,ah,ai⟩;have l:Below w.heap.size w w3:=z.out.trans (ai.below z.out.size (fun i hi e=>by have:=j.out.size;omega));have au:=Hd (y.out w3 l ah);replace l:=Hd l;clear ah ai;go_wp2_with fail
   refine au.out.mono ?_;rintro e w4 ⟨rfl,aj⟩;have q:Below w.heap.size w w4:=l.out.trans (aj.below l.out.size (fun i hi e=>by have:=j.out.size;omega));replace q:=Hd q;clear aj;cases OV
   ·go_wp2
    exact bodyPost_ret (v:=.tuple #[.float .f64 G,.int .i64 (s.size:Int),.nilIface]) (by simp [results,Tryz.results164,go_sem]) rfl ⟨by rw [aa.out,ab.out];rfl,q.out⟩
   ·go_wp2
    exact bodyPost_ret (v:=.tuple #[.float .f64 G,.int .i64 (s.size:Int),.iface 155 (.int .i64 1)]) (by simp [results,Tryz.results164,go_sem]) rfl ⟨by rw [aa.out,ab.out];rfl,q.out⟩
