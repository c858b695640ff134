/- The statements on the reader: a Reader of the law's own; the chapter's example. -/
import Derived.Test.YtfaihaoajdcjbaaGreatDoorJ13
import Derived.Lib.SlBytesConst
import Derived.Test.YtfaihaoajdcjbaaGreatDoorJ9
import Derived.Test.YtfaihaoajdcjbaaGreatDoorCliA
set_option linter.all false
namespace Go.Proofs.YtfaihaoajdcjbaaGreatDoor
open Go.RowKit
theorem cell_fr (W:World) (C:Array Value) (T:TypeId) (fr:Nat × Nat) (j:Nat):(W.alloc (.cells C T fr)).cell? ⟨W.heap.size,j,none⟩=C[j]?:=by
 have h:(W.alloc (.cells C T fr)).heap[W.heap.size]?=some (.cells C T fr):=by
   show (W.heap.push _)[W.heap.size]?=_;simp
 unfold World.cell?
 rw [h];rfl
theorem src_lit (W:World) (t:ByteArray) (T:TypeId) (fr:Nat × Nat):Src Tryz.prog 1 32 (.slice (some ⟨W.heap.size,0,none⟩) t.size t.size) t.size (Lib.strCells t) (W.alloc (.cells (Lib.strCells t).toArray T fr)):=
 Src.ofSlice _ Tryz.underlying32 ⟨W.heap.size,0,none⟩ t.size t.size _ (by rw [Lib.strCells_length,Nat.mul_one]) (fun j u hj=>by rw [Cp,Nat.zero_add,cell_fr];simpa using hj) (Lib.strCells_oneCell t)
theorem rdr_new (W:World):Rdr (W.heap.size+1) (W.alloc (.cells #[.slice none 0 0,.int .i64 0] 92)) W.heap.size (.slice none 0 0) ⟨#[]⟩ 0:=
 ⟨by rw [World.cell?_alloc_new];rfl,by rw [World.cell?_alloc_new];rfl,Blk.new _ _ _,Buf.nil _ _,by omega,by simp⟩
theorem Fm (s:ByteArray):(⟨#[]⟩:ByteArray)++s=s:=by apply ByteArray.ext;simp [ByteArray.data_append]
theorem F7 {rp:Rp} {lv many kd u:Nat} {c:UInt8} {L:List UInt8} (hc:Ae c≠7) (h:Cn rp (c :: L)=.list kd 0 u) (hm:many<=1000) (hk:kd≠14) :
   Aw rp (lv+1) many (c :: L)=.got (.mk kd ⟨#[]⟩ 0 0 false [],u,many)/\A7 rp (lv+1) many (c :: L):=by
 refine ⟨?_,Fu hc,fun kd' n u' e=>?_⟩
 · rw [Aw,h]
   dsimp only;rw [if_neg (by omega),Bo];simp
 · rw [h] at e
   simp only [Head.list.injEq] at e;rw [<-e.2.1]
   trivial
theorem scan_emp {rp:Rp} {lv many:Nat}:Aw rp lv many []=.stop 0/\A7 rp lv many []:=⟨by cases lv<;>rfl,need_nil _ _ _⟩
abbrev tOk:ByteArray:=⟨#[43,79,75,13,10]⟩
abbrev Dx:ByteArray:=⟨#[37,48,13,10,43,79,75,13,10]⟩
abbrev tV:ByteArray:=⟨#[36,49,13,10,118,13,10]⟩
abbrev tHv:ByteArray:=⟨#[37,48,13,10,43,79,75,13,10,36,49,13,10,118,13,10]⟩
abbrev tOkv:ByteArray:=⟨#[43,79,75,13,10,36,49,13,10,118,13,10]⟩
abbrev t78:ByteArray:=⟨#[58,55,13,10,58,56,13,10]⟩
abbrev t8:ByteArray:=⟨#[58,56,13,10]⟩
abbrev t0:ByteArray:=⟨#[]⟩
abbrev vMap:V:=.mk 12 ⟨#[]⟩ 0 0 false []
abbrev vOk:V:=Ay 1 ⟨#[79,75]⟩ 0 0 false
abbrev vV:V:=Ay 4 ⟨#[118]⟩ 0 0 false
abbrev v7:V:=Ay 3 ⟨#[]⟩ 7 0 false
abbrev v8:V:=Ay 3 ⟨#[]⟩ 8 0 false
theorem sc_hello:Aw rp0 8 1 Dx.data.toList=.got (vMap,4,1)/\A7 rp0 8 1 Dx.data.toList:=F7 (lv:=7) (by decide) (by kernel_rfl) (by decide) (by decide)
theorem sc_hv:Aw rp0 8 1 tHv.data.toList=.got (vMap,4,1)/\A7 rp0 8 1 tHv.data.toList:=F7 (lv:=7) (by decide) (by kernel_rfl) (by decide) (by decide)
theorem sc_ok:Aw rp0 8 1 tOk.data.toList=.got (vOk,5,1)/\A7 rp0 8 1 tOk.data.toList:=Cl (by decide) (by kernel_rfl)
theorem sc_okv:Aw rp0 8 1 tOkv.data.toList=.got (vOk,5,1)/\A7 rp0 8 1 tOkv.data.toList:=Cl (by decide) (by kernel_rfl)
theorem sc_v:Aw rp0 8 1 tV.data.toList=.got (vV,7,1)/\A7 rp0 8 1 tV.data.toList:=Cl (by decide) (by kernel_rfl)
theorem sc_78:Aw rp0 8 1 t78.data.toList=.got (v7,4,1)/\A7 rp0 8 1 t78.data.toList:=Cl (by decide) (by kernel_rfl)
theorem sc_8:Aw rp0 8 1 t8.data.toList=.got (v8,4,1)/\A7 rp0 8 1 t8.data.toList:=Cl (by decide) (by kernel_rfl)
def NS.fillIf (n:NS) (t:Int) (v:V):NS:=if 0<t then n.fill t v else n
section
variable {near:NS} {md:Md} {out side:ByteArray} {l:List (Int × Int)} {results:List (Int × V × Bool)} {last:Nat} {t:CS}
theorem ans_greet {m:ByteArray} (v:V) (hk:v.kind≠2):(⟨near,md,out,(-1,0) :: l,results,last,false,m,side⟩:CS).answer v=⟨near,md,out,l,results,last,false,m,side⟩:=by
 unfold CS.answer;simp [hk]
theorem ans_told {m:ByteArray} {tk ti:Int} (v:V) (ht:0<tk) (hk:v.kind≠2):(⟨near,md,out,(tk,ti) :: l,results,last,false,m,side⟩:CS).answer v=⟨near.fillIf ti v,md,out,l,results++[(tk,v,false)],last,false,m,side⟩:=by
 have h1:tk≠-1:=by omega
 unfold CS.answer NS.fillIf;simp [h1,ht,hk]
theorem fed_nil:Fed ⟨near,md,out,l,results,last,false,⟨#[]⟩,side⟩ ⟨near,md,out,l,results,last,false,⟨#[]⟩,side⟩:=.wait rfl (by show (⟨#[]⟩:ByteArray).size<=_;decide) scan_emp.1 scan_emp.2
theorem fed_ok {m:ByteArray} {u:Nat} {v:V} (m2:ByteArray) (hs:Aw rp0 8 1 m.data.toList=.got (v,u,1)) (hn:A7 rp0 8 1 m.data.toList) (hu0:0<u) (hu:u<=m.size) (hm:m.size<=1000000) (he:m.extract u m.size=m2) (hk:v.kind≠14) (hk2:v.kind≠2) (hc:v.count<=1000000) (hr:results.length<=1000000)
   (h:Fed ⟨near,md,out,l,results,last,false,m2,side⟩ t):Fed ⟨near,md,out,(-1,0) :: l,results,last,false,m,side⟩ t:=by
 refine .ans (s:=⟨near,md,out,(-1,0) :: l,results,last,false,m,side⟩) rfl hm hs hn hu0 hu hk hc hr ?_;show Fed ((⟨near,md,out,(-1,0) :: l,results,last,false,m.extract u m.size,side⟩:CS).answer v) t;rw [he,ans_greet v hk2];exact h
theorem Fa {m:ByteArray} {u:Nat} {v:V} {tk ti:Int} (m2:ByteArray) (hs:Aw rp0 8 1 m.data.toList=.got (v,u,1)) (hn:A7 rp0 8 1 m.data.toList) (hu0:0<u) (hu:u<=m.size) (hm:m.size<=1000000) (he:m.extract u m.size=m2) (hk:v.kind≠14) (hk2:v.kind≠2) (hc:v.count<=1000000) (hr:results.length<=1000000) (ht:0<tk)
   (h:Fed ⟨near.fillIf ti v,md,out,l,results++[(tk,v,false)],last,false,m2,side⟩ t):Fed ⟨near,md,out,(tk,ti) :: l,results,last,false,m,side⟩ t:=by
 refine .ans (s:=⟨near,md,out,(tk,ti) :: l,results,last,false,m,side⟩) rfl hm hs hn hu0 hu hk hc hr ?_;show Fed ((⟨near,md,out,(tk,ti) :: l,results,last,false,m.extract u m.size,side⟩:CS).answer v) t;rw [he,ans_told v ht hk2];exact h
theorem fed_hello (hr:results.length<=1000000):Fed ⟨near,md,out,(-1,0) :: (-1,0) :: l,results,last,false,Dx,side⟩ ⟨near,md,out,l,results,last,false,⟨#[]⟩,side⟩:=
 fed_ok tOk sc_hello.1 sc_hello.2 (by decide) (by decide) (by decide) (by kernel_rfl) (by decide) (by decide) (by decide) hr
   (fed_ok ⟨#[]⟩ sc_ok.1 sc_ok.2 (by decide) (by decide) (by decide) (by kernel_rfl) (by decide) (by decide) (by decide) hr fed_nil)
theorem fed_v {tk ti:Int} (hr:results.length<=1000000) (ht:0<tk):Fed ⟨near,md,out,(tk,ti) :: l,results,last,false,tV,side⟩ ⟨near.fillIf ti vV,md,out,l,results++[(tk,vV,false)],last,false,⟨#[]⟩,side⟩:=
 Fa ⟨#[]⟩ sc_v.1 sc_v.2 (by decide) (by decide) (by decide) (by kernel_rfl) (by decide) (by decide) (by decide) hr ht fed_nil
theorem fed_hv {tk ti:Int} (hr:results.length<=1000000) (ht:0<tk):Fed ⟨near,md,out,(-1,0) :: (-1,0) :: (tk,ti) :: l,results,last,false,tHv,side⟩ ⟨near.fillIf ti vV,md,out,l,results++[(tk,vV,false)],last,false,⟨#[]⟩,side⟩:=
 fed_ok tOkv sc_hv.1 sc_hv.2 (by decide) (by decide) (by decide) (by kernel_rfl) (by decide) (by decide) (by decide) hr
   (fed_ok tV sc_okv.1 sc_okv.2 (by decide) (by decide) (by decide) (by kernel_rfl) (by decide) (by decide) (by decide) hr (fed_v hr ht))
theorem fed_78 {k1 i1 k2 i2:Int} (hr:results.length<=100000) (h1:0<k1) (h2:0<k2):Fed ⟨near,md,out,(k1,i1) :: (k2,i2) :: l,results,last,false,t78,side⟩ ⟨(near.fillIf i1 v7).fillIf i2 v8,md,out,l,results++[(k1,v7,false)]++[(k2,v8,false)],last,false,⟨#[]⟩,side⟩:=
 Fa t8 sc_78.1 sc_78.2 (by decide) (by decide) (by decide) (by kernel_rfl) (by decide) (by decide) (by decide) (by omega) h1
   (Fa ⟨#[]⟩ sc_8.1 sc_8.2 (by decide) (by decide) (by decide) (by kernel_rfl) (by decide) (by decide) (by decide) (by rw [List.length_append];simp;omega) h2 fed_nil)
end
theorem D8 (k:Nat) (h:(Value.slice none 0 0).ownBlock=some k):False:=by cases h
theorem close_mid {ow:Nat->Nat} {w1 W2:World} {cb:Nat} {p:CAt} {rs:List (Option Addr × Nat)} {s:CS} (hC:Cells w1 cb p s) (hP:Parts ow w1 cb p rs s)
   (hW:W2=((w1.setCell ⟨cb,10,none⟩ (.slice none 0 0)).setCell ⟨cb,11,none⟩ (.slice none 0 0)).setCell ⟨cb,14,none⟩ (.bool true)) :
   ∃ow', Cells W2 cb { p with vo:=.slice none 0 0,va:=.slice none 0 0 } { s with out:=⟨#[]⟩,asked:=[],over:=true }/\Parts ow' W2 cb { p with vo:=.slice none 0 0,va:=.slice none 0 0 } rs { s with out:=⟨#[]⟩,asked:=[],over:=true }/\CW ow w1 ow' W2:=by
 have hC1:=hC.put (p' := { p with vo:=.slice none 0 0 }) (s' := { s with out:=⟨#[]⟩ }) 10 (.slice none 0 0) (by omega) rfl
 obtain ⟨hP1,hw1⟩:=hP.setOut (w' := w1) (v:=.slice none 0 0) (o:=⟨#[]⟩) (Fr.refl _ _) (Buf.nil 0 w1) (fun k e=>(D8 k e).elim);obtain ⟨o2,hP2,hw2⟩:=hP1.set_cell 10 (.slice none 0 0);have hC3:=hC1.put (p' := { p with vo:=.slice none 0 0,va:=.slice none 0 0 }) (s' := { s with out:=⟨#[]⟩,asked:=[] }) 11 (.slice none 0 0) (by omega) rfl
 obtain ⟨hP3,hw3⟩:=hP2.setAsked (w' := w1.setCell ⟨cb,10,none⟩ (.slice none 0 0)) (v:=.slice none 0 0) (l:=[]) (Fr.refl _ _) (BufK.nil 2 0 _) (fun k e=>(D8 k e).elim);obtain ⟨o4,hP4,hw4⟩:=hP3.set_cell 11 (.slice none 0 0);have hC5:=hC3.put (p' := { p with vo:=.slice none 0 0,va:=.slice none 0 0 }) (s' := { s with out:=⟨#[]⟩,asked:=[],over:=true }) 14 (.bool true) (by omega) rfl
 obtain ⟨o5,hP5,hw5⟩:=(hP4.free s.last true).set_cell 14 (.bool true);rw [hW];exact ⟨o5,hC5,hP5,(((hw1.trans hw2).trans hw3).trans hw4).trans hw5⟩
theorem close_end {ow:Nat->Nat} {W2 W3 W4 W5:World} {cb:Nat} {p:CAt} {rs:List (Option Addr × Nat)} {s:CS} (hC:Cells W2 cb p s) (hP:Parts ow W2 cb p rs s)
   (hW3:W3=W2.alloc (.cells #[.slice none 0 0,.int .i64 0] 92)) (hW4:W4=W3.alloc (.cells #[.slice none 0 0,.int .i64 0] 92))
   (hW5:W5=(W4.setCell ⟨cb,8,none⟩ (P0 W2.heap.size)).setCell ⟨cb,9,none⟩ (P0 W3.heap.size)) :
   ∃ow', Cells W5 cb { p with mn:=W2.heap.size,vm:=.slice none 0 0,qm:=0,sd:=W3.heap.size,vs:=.slice none 0 0,qs:=0 } { s with main:=⟨#[]⟩,side:=⟨#[]⟩ }/\Parts ow' W5 cb { p with mn:=W2.heap.size,vm:=.slice none 0 0,qm:=0,sd:=W3.heap.size,vs:=.slice none 0 0,qs:=0 } rs { s with main:=⟨#[]⟩,side:=⟨#[]⟩ }/\CW ow W2 ow' W5:=by
 have b3:Below W2.heap.size W2 W3:=by rw [hW3];exact (Below.refl _ _).alloc (Nat.le_refl _) _
 have b4:Below W3.heap.size W3 W4:=by rw [hW4];exact (Below.refl _ _).alloc (Nat.le_refl _) _
 have r3:=rdr_new W2;rw [<-hW3] at r3;have r4:=rdr_new W3;rw [<-hW4] at r4;obtain ⟨hP3,hw3⟩:=hP.setMain (Ar b3) r3 (.inr (Nat.le_refl _)) (fun k e=>(D8 k e).elim);obtain ⟨hP4,hw4⟩:=hP3.setSide (Ar b4) r4 (.inr (Nat.le_refl _)) (fun k e=>(D8 k e).elim);obtain ⟨o5,hP5,hw5⟩:=hP4.set_cell 8 (P0 W2.heap.size);obtain ⟨o6,hP6,hw6⟩:=hP5.set_cell 9 (P0 W3.heap.size);have hC4:=(hC.below b3).below b4;have hC5:=hC4.put (p' := { p with mn:=W2.heap.size,vm:=.slice none 0 0,qm:=0 }) (s' := { s with main:=⟨#[]⟩ }) 8 (P0 W2.heap.size) (by omega) rfl
 have hC6:=hC5.put (p' := { p with mn:=W2.heap.size,vm:=.slice none 0 0,qm:=0,sd:=W3.heap.size,vs:=.slice none 0 0,qs:=0 }) (s' := { s with main:=⟨#[]⟩,side:=⟨#[]⟩ }) 9 (P0 W3.heap.size) (by omega) rfl
 rw [hW5];exact ⟨o6,hC6,hP6,((hw3.trans hw4).trans hw5).trans hw6⟩
set_option maxRecDepth 100000 in
set_option maxHeartbeats 1600000 in
theorem Em {ow:Nat->Nat} {w:World} {cb:Nat} {p:CAt} {rs:List (Option Addr × Nat)} {s:CS} (hC:Cells w cb p s) (hP:Parts ow w cb p rs s) :
   Calls Tryz.prog 24 #[P0 cb] w fun e w' => ∃ow', e=.returned (.tuple #[])/\Cli ow' w' cb s.close/\CW ow w ow' w' := by
 have c0:=hC.c0;replace hC:=Hd hC;replace hP:=Hd hP
 go_enter Tryz.func24,Tryz.ntmps24
 go_wp2_with fail
 refine (Av.near_clear hP.out.near).mono ?_;rintro e w1 ⟨fp', rfl,hN,hWe⟩;obtain ⟨hP1,hw1⟩:=hP.out.setNear hN hWe;have hC1:=hC.out.fr hWe.1 (fun e=>by have h1:=hP.out.ofp cb e;rw [hP.out.ocb] at h1;omega);have hC1' : Cells w1 cb { p with fp:=fp' } { s with near:=s.near.clear }:=⟨hC1.c0,hC1.c1,hC1.c2,hC1.c3,hC1.c4,hC1.c5,hC1.c6,hC1.c7,hC1.c8,hC1.c9,hC1.c10,hC1.c11,hC1.c12,hC1.c13,hC1.c14⟩
 have d8:=hC1.c8;have d9:=hC1.c9;have d10:=hC1.c10;have d11:=hC1.c11;have d14:=hC1.c14;have z:=fun i=>hP1.blk.frz i none;have z8:=z 8;have z9:=z 9;have z10:=z 10;have z11:=z 11;have z14:=z 14;obtain ⟨W2,hW2⟩:∃W2,W2=((w1.setCell ⟨cb,10,none⟩ (.slice none 0 0)).setCell ⟨cb,11,none⟩ (.slice none 0 0)).setCell ⟨cb,14,none⟩ (.bool true):=⟨_,rfl⟩;obtain ⟨o2,hC2,hP2,hw2⟩:=close_mid hC1' hP1 hW2;have hw02:=Hd (hw1.trans hw2);clear z hC1 hC1' hN hWe hw1 hw2 hP1;replace hC2:=Hd hC2;replace hP2:=Hd hP2;replace hW2:=Hd hW2;go_wp2_with fail
 rw [<-hW2.out];clear d8 d9 d10 d11 d14 z8 z9 z10 z11 z14;refine (F0 W2).mono ?_;rintro e w' ⟨rfl,hww⟩;obtain ⟨W3,hW3⟩:∃W3,W3=W2.alloc (.cells #[.slice none 0 0,.int .i64 0] 92):=⟨_,rfl⟩;rw [<-hW3] at hww;obtain rfl:=hww.symm;clear hww;replace hW3:=Hd hW3;go_wp2_with fail
 refine (F0 W3).mono ?_;rintro e w' ⟨rfl,hww⟩;obtain ⟨W4,hW4⟩:∃W4,W4=W3.alloc (.cells #[.slice none 0 0,.int .i64 0] 92):=⟨_,rfl⟩;rw [<-hW4] at hww;obtain rfl:=hww.symm;clear hww;have b3:Below W2.heap.size W2 W3:=by rw [hW3.out];exact (Below.refl _ _).alloc (Nat.le_refl _) _
 have b4:Below W3.heap.size W3 W4:=by rw [hW4];exact (Below.refl _ _).alloc (Nat.le_refl _) _
 have hC4:=(hC2.out.below b3).below b4;have hP4:=((hP2.out.grow b3).1.grow b4).1;have d8:=hC4.c8;have d9:=hC4.c9;have z8:=hP4.blk.frz 8 none;have z9:=hP4.blk.frz 9 none;obtain ⟨W5,hW5⟩:∃W5,W5=(W4.setCell ⟨cb,8,none⟩ (P0 W2.heap.size)).setCell ⟨cb,9,none⟩ (P0 W3.heap.size):=⟨_,rfl⟩;obtain ⟨o5,hC5,hP5,hw5⟩:=close_end hC2.out hP2.out hW3.out hW4 hW5;have hfin:Cli o5 W5 cb s.close:=⟨_,_,hC5,hP5,rfl,rfl⟩;have hw:=Hd (hw02.out.trans hw5);clear hC4 hP4 hC5 hP5 hw5 b3 b4;replace hfin:=Hd hfin;replace hW4:=Hd hW4;replace hW5:=Hd hW5;go_wp2_with fail
 rw [<-hW5.out]
 go_end0
 exact ⟨o5,rfl,hfin.out,hw.out⟩
theorem Gf {ow:Nat->Nat} {w:World} {cb:Nat} {s:CS} (h:Cli ow w cb s) (hl:s.last<=1000000000) :
   Calls Tryz.prog 37 #[P0 cb] w fun e w' => ∃ow', e=.returned (.int .i64 ((s.last+1:Nat):Int))/\Cli ow' w' cb s.tok/\CW ow w ow' w' := by
 obtain ⟨p,rs,hC,hP,hq⟩:=h.out;obtain ⟨k,hk⟩:∃k,k=s.last:=⟨_,rfl⟩;have c13:=hC.c13;rw [<-hk] at c13;have z13:=hP.blk.frz 13 none;have hwr:IntKind.i64.wrap ((k:Int)+1)=((k+1:Nat):Int):=by rw [IntWalk.i64_in _ (by omega)];rfl
 obtain ⟨W,hW⟩:∃W,W=w.setCell ⟨cb,13,none⟩ (.int .i64 ((k+1:Nat):Int)):=⟨_,rfl⟩;have hC1:=hC.put (p' := p) (s' := s.tok) 13 (.int .i64 ((k+1:Nat):Int)) (by omega) (by rw [hk];rfl);obtain ⟨o1,hP1,hw1⟩:=hP.set_cell 13 (.int .i64 ((k+1:Nat):Int));rw [<-hW] at hC1 hP1 hw1;have hfin:Cli o1 W cb s.tok:=⟨_,_,hC1,hP1.free s.tok.last s.tok.over,hq⟩;clear hC hP hC1 hP1 h;replace hfin:=Hd hfin;replace hw1:=Hd hw1;replace hk:=Hd hk;have hW2:W=w.setCell ⟨cb,13,none⟩ (.int .i64 ((k:Int)+1)):=hW;replace hW2:=Hd hW2;clear hW
 go_enter Tryz.func37,Tryz.ntmps37
 go_wp2;go_ret;rw [<-hk.out,<-hW2.out];exact ⟨o1,rfl,hfin.out,hw1.out⟩
theorem cres_any {ow:Nat->Nat} {w:World} {cb:Nat} {s:CS} (h:Cli ow w cb s) :
   Calls Tryz.prog 12 #[P0 cb] w fun e w' => ∃(v:Value) (rs:List (Option Addr × Nat)) (ow' : Nat->Nat),e=.returned v/\rs.length=s.results.length/\BufK 8 0 w' v s.results.length (resL s.results rs)/\Cli ow' w' cb { s with results:=[] }/\CW ow w ow' w' := by
 obtain ⟨p,rs,hC,hP,hq⟩:=h.out;obtain ⟨ao,co,eo,_⟩:=hP.results.shape;have c12:=hC.c12;rw [eo] at c12;have z12:=hP.blk.frz 12 none;have hrl:=hP.rlen;have hC1:=hC.put (p' := { p with vr:=.slice none 0 0 }) (s' := { s with results:=[] }) 12 (.slice none 0 0) (by omega) rfl
 obtain ⟨hP1,hw1⟩:=hP.setRes (w' := w) (v:=.slice none 0 0) (l:=[]) (rs' := []) (Fr.refl _ _) (BufK.nil 8 0 w) rfl (fun k e=>(D8 k e).elim);obtain ⟨o2,hP2,hw2⟩:=hP1.set_cell 12 (.slice none 0 0);have hb:BufK 8 0 (w.setCell ⟨cb,12,none⟩ (.slice none 0 0)) p.vr s.results.length (resL s.results rs):=hP.results.fr (S:=fun k=>k=cb) ((Fr.refl (fun k=>k=cb) w).setCell (fun _=>rfl) _) (fun k e e2=>by have h1:=hP.ovr k e;rw [e2,hP.ocb] at h1;omega);rw [eo] at hb;have hfin:Cli o2 (w.setCell ⟨cb,12,none⟩ (.slice none 0 0)) cb { s with results:=[] }:=⟨_,_,hC1,hP2,hq⟩
 have hw:=Hd (hw1.trans hw2);clear hC hP hC1 hP1 hP2 hw1 hw2 h eo;replace hfin:=Hd hfin;replace hb:=Hd hb;replace hrl:=Hd hrl
 go_enter Tryz.func12,Tryz.ntmps12
 go_wp2;go_ret;exact ⟨_,rs,o2,rfl,hrl.out,hb.out,hfin.out,hw.out⟩
end Go.Proofs.YtfaihaoajdcjbaaGreatDoor
