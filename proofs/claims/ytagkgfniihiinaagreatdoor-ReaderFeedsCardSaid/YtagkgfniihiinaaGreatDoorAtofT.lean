/- internal/strconv.atof64 at a text of more than nineteen digits: some number, by the text alone. -/
import Derived.Test.YtagkgfniihiinaaGreatDoorJ74
import Derived.Test.YtagkgfniihiinaaGreatDoorAtofM
set_option linter.all false
namespace Go.Proofs.YtagkgfniihiinaaGreatDoor
open Go.RowKit
set_option maxRecDepth 100000 in
set_option maxHeartbeats 3200000 in
theorem fb_over {w0 w:World} {b:Nat} {d:Dec} {ng:Bool} (hw:Dn w0 w b) (h:Dm w b d ng) (hg:d.Good) (hp:310<d.dp) (hp2:d.dp<=1000000) :
   Calls Tryz.prog 209 #[.pointer (some ⟨b,0,none⟩),.pointer (some ⟨7,0,none⟩)] w fun e w' => e=.returned (.tuple #[.int .u64 ((fbR d+sgB ng:Nat):Int),.bool (decide (fbR d=9218868437227405312))])/\Fr (fun k=>k=b) w w' := by
 have hne:d.L≠[]:=by obtain ⟨c,l,e,_⟩:=hg.head;rw [e];simp
 have hInf:fbR d=9218868437227405312:=by
   unfold fbR fbM;rw [if_neg hne,if_pos hp]
 obtain ⟨f,hD,hrow⟩:=h
 have c0:=hD.nd
 have cp:=hD.pt
 have c2:=hD.sg
 have hn0:((d.L.length:Int) == 0)=false:=by rw [beq_eq_false_iff_ne];have:=hg.val.2;omega
 obtain ⟨nd,hnd⟩:∃nd,nd=d.L.length:=⟨_,rfl⟩
 rw [<-hnd] at c0 hn0
 obtain ⟨_,_,i0,i1,i2⟩:=hw.at
 have o1:bits .and .u64 0 4503599627370495=0:=by decide +kernel
 have o2:bits .and .i64 2047 2047=2047:=by decide +kernel
 have o3:bits .or .u64 0 9218868437227405312=9218868437227405312:=by decide +kernel
 have o4:bits .or .u64 9218868437227405312 9223372036854775808=18442240474082181120:=by decide +kernel
 have hFF:Fr (fun k=>k=b) w w:=Fr.refl _ _
 replace hFF:=Hd hFF
 replace hInf:=Hd hInf
 replace hnd:=Hd hnd
 replace hD:=Hd hD
 replace hw:=Hd hw
 replace hg:=Hd hg
 clear hrow hne
 cases ng
 · go_enter Tryz.func209,Tryz.ntmps209
   go_wp2_with fail
   refine Em rfl rfl ?_;go_wp2_with fail
   go_step3
   refine Or.inr ⟨rfl,?_⟩;show Code.wp _ _ _ _ _;go_upto_region 40 with fail
   go_quiet (fail)
   go_wp2_with fail
   go_step3
   go_upto_region 43 with fail
   go_quiet (fail)
   go_wp2_with fail
   rw [Exit.noGoto_ret];refine bodyPost_ret (v:=.tuple #[.int .u64 9218868437227405312,.bool true]) (by simp [results,Tryz.results209,go_sem]) rfl ⟨by rw [hInf.out];rfl,?_⟩;repeat (first | exact hFF.out | refine Fr.drewN ?_ _)
 · go_enter Tryz.func209,Tryz.ntmps209
   go_wp2_with fail
   refine Em rfl rfl ?_;go_wp2_with fail
   go_step3
   refine Or.inr ⟨rfl,?_⟩;show Code.wp _ _ _ _ _;go_upto_region 40 with fail
   go_quiet (fail)
   go_wp2_with fail
   go_step3
   go_upto_region 43 with fail
   go_quiet (fail)
   go_upto_region 45 with fail
   go_quiet (fail)
   go_wp2_with fail
   rw [Exit.noGoto_ret];refine bodyPost_ret (v:=.tuple #[.int .u64 18442240474082181120,.bool true]) (by simp [results,Tryz.results209,go_sem]) rfl ⟨by rw [hInf.out];rfl,?_⟩;repeat (first | exact hFF.out | refine Fr.drewN ?_ _)
def longR (d:Bool) (L:List UInt8) (m:Nat) (x:Int):Nat:=
 if Bt (A3 L) (expF d L m x)=Bt (A3 L+1) (expF d L m x) then Bt (A3 L) (expF d L m x) else fbR (decN d L m x)
theorem sgB_order {neg:Bool} {a b:Nat} (ha:a<=9218868437227405312) (hb:b<=9218868437227405312):FloatKind.f64.format.order (sgB neg+a) (sgB neg+b)=some (if neg then compare (-(a:Int)) (-(b:Int)) else compare (a:Int) (b:Int)):=by
 have na:nanF (sgB neg+a)=false:=by cases neg<;>exact decide_eq_false (by unfold sgB;simp;omega)
 have nb:nanF (sgB neg+b)=false:=by cases neg<;>exact decide_eq_false (by unfold sgB;simp;omega)
 have hs:sgB neg<=9223372036854775808:=by cases neg<;>decide
 have:=order_sv (x:=sgB neg+a) (y:=sgB neg+b) (by omega) (by omega) na nb;have ea:∀c,c<=9218868437227405312->sv (sgB neg+c)=if neg then -(c:Int) else (c:Int):=fun c hc=>by
   unfold sv sgB;cases neg
   · rw [if_neg (by simp;omega)];simp
   · rw [if_pos (by simp)];simp
 rw [ea a ha,ea b hb] at this;cases neg<;>exact this
def decZ:Array Value:=Array.replicate 800 (.int .u8 0)++#[.int .i64 0,.int .i64 0,.bool false,.bool false]
theorem zeroDec (w:World):(zeroValue 200).run Tryz.prog w=.ok (.agg decZ) w:=by kernel_rfl
theorem dm_new (w:World):DM (w.alloc (.cells decZ 200)) w.heap.size (fun _=>0) 0 0 false false:=by
 have hsz:(Array.replicate 800 (Value.int .u8 0)).size=800:=Array.size_replicate;have tail:∀j v,(#[.int .i64 0,.int .i64 0,.bool false,.bool false]:Array Value)[j]?=some v->decZ[800+j]?=some v:=fun j v h=>by
   unfold decZ;rw [Array.getElem?_append_right (by rw [hsz];omega),hsz,Nat.add_sub_cancel_left];exact h
 refine ⟨Blk.new _ _ _,fun i hi=>?_,?_,?_,?_,?_⟩
 · rw [World.cell?_alloc_at _ _ _ _ (by simp)]
   show decZ[i]?=_;unfold decZ;rw [Array.getElem?_append_left (by rw [hsz];exact hi),Array.getElem?_replicate,if_pos hi];rfl
 · rw [World.cell?_alloc_at _ _ _ _ (by simp)];exact tail 0 _ rfl
 · rw [World.cell?_alloc_at _ _ _ _ (by simp)];exact tail 1 _ rfl
 · rw [World.cell?_alloc_at _ _ _ _ (by simp)];exact tail 2 _ rfl
 · rw [World.cell?_alloc_at _ _ _ _ (by simp)];exact tail 3 _ rfl
theorem scanM_dig:∀{l:List UInt8} {d:Bool} {L:List UInt8} {m:Nat} {d' : Bool} {L' : List UInt8} {m' : Nat} {r:List UInt8},(∀c∈L,isD c=true)->B0 l d L m=(d', L', m', r)->∀c∈L', isD c=true
 | [],d,L,m,d', L', m', r,hL,h=>by
   simp only [B0,Prod.mk.injEq] at h;rw [<-h.2.1];exact hL
 | c :: l,d,L,m,d', L', m', r,hL,h=>by
   rw [B0] at h;split at h
   · split at h
     · simp only [Prod.mk.injEq] at h
       rw [<-h.2.1];exact hL
     · exact scanM_dig hL h
   · split at h
     · rename_i hd
       refine scanM_dig (fun b hb=>?_) h;rw [List.mem_append,List.mem_singleton] at hb;rcases hb with hb | hb
       · exact hL b hb
       · rw [hb];exact hd
     · simp only [Prod.mk.injEq] at h
       rw [<-h.2.1];exact hL
theorem txt_dig {s:ByteArray} {neg d:Bool} {L:List UInt8} {m:Nat} {x:Int} (h:FTxt s neg d L m x):(∀c∈L,isD c=true)/\L.length<=s.size:=by
 obtain ⟨⟨c,body,rest,hs,hc,hsc,_⟩,_,_⟩:=h;refine ⟨scanM_dig (fun c hc=>by cases hc) hsc,?_⟩;have h1:=(C3 hsc).1;have h2:=congrArg List.length hs;rw [<-Aj,List.length_append] at h2;simp only [List.length_nil] at h1;omega
theorem expF_low {s:ByteArray} {neg d:Bool} {L:List UInt8} {m:Nat} {x:Int} (h:FTxt s neg d L m x) (hz:s.size<=700) (h0:A3 L≠0) (ht:Bf L=true):(decN d L m x).Good/\(decN d L m x).dp=expF d L m x+19:=by
 obtain ⟨hd,hl⟩:=txt_dig h;have hn:19<ndF L:=by
   rcases Nat.lt_or_ge 19 (ndF L) with h9 | h9
   · exact h9
   · unfold Bf at ht
     rw [List.drop_eq_nil_of_le h9] at ht;cases ht
 have hne:A0 L≠[]:=fun e=>by
   have:ndF L=0:=by unfold ndF;rw [e];rfl
   omega
 refine ⟨⟨fun c hc=>hd c (stripL_mem hc),?_,?_⟩,?_⟩
 · have:=Co L
   show (A0 L).length<=800;omega
 · obtain ⟨c,l,e,hc⟩:=stripL_head hne
   exact ⟨c,l,e,hc⟩
 · unfold expF
   rw [if_neg h0,Nat.min_eq_left (by omega)];show (if d then (ndF L:Int) - m else ndF L)+x=_;omega
set_option maxRecDepth 100000 in
set_option maxHeartbeats 6400000 in
theorem atof_trunc {s:ByteArray} {neg d:Bool} {L:List UInt8} {m:Nat} {x p:Int} (h:FTxt s neg d L m x) (hz7:s.size<=700) (h0:0<A3 L) (h1:A3 L<10000000000000000000) (ht:Bf L=true) (hx:expF d L m x=p) (hp1:-345<=p) (hp2:p<=310) {w:World} (hP:Par w) (hW:Pows w) (hS:Slow w) :
   Calls Tryz.prog 164 #[.string s] w fun e w' => e=.returned (.tuple #[.float .f64 (sgB neg+longR d L m x),.int .i64 (s.size:Int),Bc (longR d L m x)])/\Below w.heap.size w w' := by
 have hset:=fun (W:World) (b:Nat) (hD:DM W b (fun _=>0) 0 0 false false)=>set_any h hz7 hD
 obtain ⟨hG,hGp⟩:=expF_low h hz7 (by omega) ht
 have hlong:longR d L m x=if Bt (A3 L) p=Bt (A3 L+1) p then Bt (A3 L) p else fbR (decN d L m x):=by unfold longR;rw [hx]
 rw [hx] at hGp
 have hrf:=Cr h w
 obtain ⟨⟨c,body,rest,hs,hc,_⟩,hsz,_⟩:=h
 have hsp:=Dd hs hc hsz w
 rw [ht,hx] at hrf
 obtain ⟨mt,hmt⟩:∃mt,A3 L=mt:=⟨_,rfl⟩
 rw [hmt] at hrf h0 h1 hlong
 have hpf:=Fg (sb:=neg) h0 (by omega) hp1 hp2 hW
 have hpf1:=fun (W:World) (hW:Pows W)=>Fg (sb:=neg) (d:=mt+1) (by omega) (by omega) hp1 hp2 hW
 have hr1:Bt mt p<=9218868437227405312:=by
   obtain ⟨R,_,hR⟩:=Fi h0 (by omega) (p:=p) (by omega) (by omega);rw [hR];exact Nat.min_le_right _ _
 have hr2:Bt (mt+1) p<=9218868437227405312:=by
   obtain ⟨R,_,hR⟩:=Fi (d:=mt+1) (by omega) (by omega) (p:=p) (by omega) (by omega);rw [hR];exact Nat.min_le_right _ _
 obtain ⟨dc,hdc⟩:∃dc,dc=decN d L m x:=⟨_,rfl⟩
 rw [<-hdc] at hset hG hGp hlong
 have hfb9:=(fb_lt dc (.inr hG)).1
 obtain ⟨r1,hr1e⟩:∃r1,r1=Bt mt p:=⟨_,rfl⟩
 obtain ⟨r2,hr2e⟩:∃r2,r2=Bt (mt+1) p:=⟨_,rfl⟩
 obtain ⟨r3,hr3e⟩:∃r3,r3=fbR dc:=⟨_,rfl⟩
 rw [<-hr1e] at hpf hr1 hlong
 rw [<-hr2e] at hpf1 hr2 hlong
 rw [<-hr3e] at hfb9 hlong
 have hord:=sgB_order (neg:=neg) hr1 hr2
 obtain ⟨S,hSg⟩:∃S:Nat,S=sgB neg:=⟨_,rfl⟩
 rw [<-hSg] at hpf hpf1 hord ⊢
 have hopt:=hP.opt
 have hk1:¬(310:Int)<p:=by omega
 have hk2:¬p < -345:=by omega
 have hm0:((mt:Int) == 0)=false:=by rw [beq_eq_false_iff_ne];omega
 have hb:=B4 neg
 have hsz2:(s.size:Int)<=1000:=by omega
 have hsh:(S:Int)=(neg.toNat:Int) * 9223372036854775808:=by rw [hSg];cases neg<;>rfl
 rw [hsh] at hpf hpf1
 have hne:neg.toNat<=1:=by cases neg<;>decide
 obtain ⟨nn,hnn⟩:∃nn:Nat,nn=neg.toNat:=⟨_,rfl⟩
 rw [<-hnn] at hne hb hpf hpf1
 have hm1:((mt+1:Nat):Int)=(mt:Int)+1:=by omega
 rw [hm1] at hpf1
 obtain ⟨V1,hV1⟩:∃V,V=Bc r1:=⟨_,rfl⟩
 obtain ⟨V2,hV2⟩:∃V,V=Bc r2:=⟨_,rfl⟩
 rw [<-hV1] at hpf
 rw [<-hV2] at hpf1
 obtain ⟨R,hR⟩:∃R,R=longR d L m x:=⟨_,rfl⟩
 rw [<-hR] at hlong ⊢
 obtain ⟨ER,hER⟩:∃ER,ER=Bc R:=⟨_,rfl⟩
 rw [<-hER]
 replace hER:=Hd hER
 have hsx:s.extract 0 s.size=s:=by simp
 replace hrf:=Hd hrf
 replace hsp:=Hd hsp
 replace hb:=Hd hb
 replace hpf:=Hd hpf
 replace hpf1:=Hd hpf1
 replace hset:=Hd hset
 replace hG:=Hd hG
 replace hR:=Hd hR
 replace hV1:=Hd hV1
 replace hV2:=Hd hV2
 replace hr1e:=Hd hr1e
 replace hr2e:=Hd hr2e
 replace hr3e:=Hd hr3e
 replace hdc:=Hd hdc
 replace hSg:=Hd hSg
 replace hnn:=Hd hnn
 replace hlong:=Hd hlong
 replace hsh:=Hd hsh
 replace hW:=Hd hW
 have hwr:IntKind.u64.wrap ((mt:Int)+1)=(mt:Int)+1:=by simp [IntKind.wrap,IntKind.bits,IntKind.signed];omega
 replace hwr:=Hd hwr
 replace hsx:=Hd hsx
 replace h1:=Hd h1
 replace hS:=Hd hS
 replace hr1:=Hd hr1
 replace hr2:=Hd hr2
 replace hfb9:=Hd hfb9
 replace hord:=Hd hord
 replace hGp:=Hd hGp
 clear hx ht hs hc hmt hP hm1
 go_enter Tryz.func164,Tryz.ntmps164
 go_wp2_with fail
 refine (hsp.out).mono ?_
 rintro e w' ⟨rfl,hww⟩
 obtain rfl:=hww.symm
 clear hww
 go_wp2_with fail
 refine (hrf.out).mono ?_
 rintro e w' ⟨rfl,hww⟩
 obtain rfl:=hww.symm
 clear hww
 go_wp2_with fail
 refine (hb.out _).mono ?_
 rintro e w' ⟨rfl,hww⟩
 obtain rfl:=hww.symm
 clear hww
 go_wp2_with fail
 refine hpf.out.mono ?_
 rintro e w1 ⟨rfl,hb1⟩
 have hp1' := hpf1.out w1 (hW.out.below hb1 hW.out.lt)
 replace hp1' := Hd hp1'
 have hwr' := hwr.out
 go_wp2_with fail
 refine hp1'.out.mono ?_
 rintro e w2 ⟨rfl,hb2⟩
 have hb02:=hb1.trans (hb2.mono hb1.size)
 replace hb02:=Hd hb02
 clear hb1 hb2
 by_cases hrr:r1=r2
 · have hRv:R=r1:=by rw [hlong.out,if_pos hrr]
   have hord2:FloatKind.f64.format.order (S+r1) (S+r2)=some .eq:=by
     rw [hord.out];cases neg
     · simp only [Bool.false_eq_true,if_false];rw [Int.compare_eq_eq.2 (by omega)]
     · simp only [if_true];rw [Int.compare_eq_eq.2 (by omega)]
   have hVE:V1=ER:=by rw [hV1.out,hER.out,hRv]
   replace hRv:=Hd hRv;replace hVE:=Hd hVE;replace hrr:=Hd hrr;replace hord:=Hd hord;go_wp2;exact bodyPost_ret (v:=.tuple #[.float .f64 (S+r1),.int .i64 (s.size:Int),V1]) (by simp [results,Tryz.results164,go_sem]) rfl ⟨by rw [hRv.out,hVE.out],hb02.out⟩
 · have hRv:R=r3:=by rw [hlong.out,if_neg hrr]
   have hord2:FloatKind.f64.format.order (S+r1) (S+r2)=some .lt\/FloatKind.f64.format.order (S+r1) (S+r2)=some .gt:=by
     rw [hord.out];rcases Nat.lt_or_gt_of_ne hrr with h9 | h9
     · cases neg
       · left;simp only [Bool.false_eq_true,if_false];rw [Int.compare_eq_lt.2 (by omega)]
       · right;simp only [if_true];rw [Int.compare_eq_gt.2 (by omega)]
     · cases neg
       · right;simp only [Bool.false_eq_true,if_false];rw [Int.compare_eq_gt.2 (by omega)]
       · left;simp only [if_true];rw [Int.compare_eq_lt.2 (by omega)]
   have hz:=zeroDec;obtain ⟨Z,hZ⟩:∃Z,Z=decZ:=⟨_,rfl⟩;rw [<-hZ] at hz;have hnew:∀W:World,DM (W.alloc (.cells Z 200)) W.heap.size (fun _=>0) 0 0 false false:=fun W=>by rw [hZ];exact dm_new W
   have hsx' := hsx.out;replace hnew:=Hd hnew;replace hZ:=Hd hZ;replace hRv:=Hd hRv;replace hrr:=Hd hrr;replace hord:=Hd hord;have hset2:=hset.out _ _ (hnew.out w2);have hbn:Below w.heap.size w (w2.alloc (.cells Z 200)):=hb02.out.alloc hb02.out.size _;replace hset2:=Hd hset2;replace hbn:=Hd hbn;obtain ⟨G,hGe⟩:∃G:Nat,G=r3+S:=⟨_,rfl⟩;obtain ⟨OV,hOV⟩:∃OV:Bool,OV=decide (r3=9218868437227405312):=⟨_,rfl⟩;have hfbA:∀W,Below w.heap.size w W->Dm W w2.heap.size dc neg->Calls Tryz.prog 209 #[.pointer (some ⟨w2.heap.size,0,none⟩),.pointer (some ⟨7,0,none⟩)] W fun e w' => e=.returned (.tuple #[.int .u64 (G:Int),.bool OV])/\Fr (fun k=>k=w2.heap.size) W w' := fun W hW' hD' => by
     have hn:Dn w W w2.heap.size:=⟨hS.out,hW', hb02.out.size⟩;rw [hGe,hOV,hr3e.out,hSg.out];by_cases h9:310<dc.dp
     · exact fb_over hn hD' hG.out h9 (by have:=hGp.out;omega)
     · exact fb_any hn hD' hG.out (by have:=hGp.out;omega) (by omega)
   have hGv:S+R=G:=by rw [hGe,hRv.out];omega
   have hEv:ER=if OV then .iface 155 (.int .i64 1) else .nilIface:=by
     rw [hER.out,hRv.out,hOV];unfold Bc;by_cases h9:r3=9218868437227405312
     · rw [if_pos h9,decide_eq_true h9];rfl
     · rw [if_neg h9,decide_eq_false h9];rfl
   have f1:∀w,(callFunc 211 #[.int .u64 (G:Int)]).run Tryz.prog w=.ok (.value (.float .f64 G)) w:=fun w=>B8 G w;replace hfbA:=Hd hfbA;replace hGv:=Hd hGv;replace hEv:=Hd hEv;replace hGe:=Hd hGe;replace hOV:=Hd hOV;rcases hord2 with hord2 | hord2
   · go_wp2_with fail
     refine hset2.out.mono ?_;rintro e w3 ⟨rfl,hD3,hF3⟩;have hb3:Below w.heap.size w w3:=hbn.out.trans (hF3.below hbn.out.size (fun i hi e=>by have:=hb02.out.size;omega));have hfb:=hfbA.out w3 hb3 hD3;replace hfb:=Hd hfb;replace hb3:=Hd hb3;clear hD3 hF3;go_wp2_with fail
     refine hfb.out.mono ?_;rintro e w4 ⟨rfl,hF4⟩;have hb4:Below w.heap.size w w4:=hb3.out.trans (hF4.below hb3.out.size (fun i hi e=>by have:=hb02.out.size;omega));replace hb4:=Hd hb4;clear hF4;cases OV
     · go_wp2
       exact bodyPost_ret (v:=.tuple #[.float .f64 G,.int .i64 (s.size:Int),.nilIface]) (by simp [results,Tryz.results164,go_sem]) rfl ⟨by rw [hGv.out,hEv.out];rfl,hb4.out⟩
     · go_wp2
       exact bodyPost_ret (v:=.tuple #[.float .f64 G,.int .i64 (s.size:Int),.iface 155 (.int .i64 1)]) (by simp [results,Tryz.results164,go_sem]) rfl ⟨by rw [hGv.out,hEv.out];rfl,hb4.out⟩
   · go_wp2_with fail
     refine hset2.out.mono ?_;rintro e w3 ⟨rfl,hD3,hF3⟩;have hb3:Below w.heap.size w w3:=hbn.out.trans (hF3.below hbn.out.size (fun i hi e=>by have:=hb02.out.size;omega));have hfb:=hfbA.out w3 hb3 hD3;replace hfb:=Hd hfb;replace hb3:=Hd hb3;clear hD3 hF3;go_wp2_with fail
     refine hfb.out.mono ?_;rintro e w4 ⟨rfl,hF4⟩;have hb4:Below w.heap.size w w4:=hb3.out.trans (hF4.below hb3.out.size (fun i hi e=>by have:=hb02.out.size;omega));replace hb4:=Hd hb4;clear hF4;cases OV
     · go_wp2
       exact bodyPost_ret (v:=.tuple #[.float .f64 G,.int .i64 (s.size:Int),.nilIface]) (by simp [results,Tryz.results164,go_sem]) rfl ⟨by rw [hGv.out,hEv.out];rfl,hb4.out⟩
     · go_wp2
       exact bodyPost_ret (v:=.tuple #[.float .f64 G,.int .i64 (s.size:Int),.iface 155 (.int .i64 1)]) (by simp [results,Tryz.results164,go_sem]) rfl ⟨by rw [hGv.out,hEv.out];rfl,hb4.out⟩
end Go.Proofs.YtagkgfniihiinaaGreatDoor
