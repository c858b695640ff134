/- item.Right and the document's: whether an item can be. -/
import Derived.Test.YteoalcmhdoopnaaGreatDoorJ10
import Derived.Laws.Cover1
import Derived.Deep.DeepCutAuto
import Derived.IntWalk
namespace Go.Proofs.YteoalcmhdoopnaaGreatDoor
open Go.RowKit
def C8 (k:Int) (t:ByteArray) (fs:List Fld):Prop:=(k=1/\t.size<=4096/\fs.length=0)\/(k=2/\t=⟨#[]⟩/\1<=fs.length/\fs.length<=256/\(∀f∈fs,fineF f)/\Srt fs)
def Adj (fs:List Fld):Prop:=∀(k:Nat) (h:k+1<fs.length),cmpB fs[k].1 fs[k+1].1<0
theorem srt_of_adj {fs:List Fld} (h:Adj fs):Srt fs:=by
 unfold Srt;rw [List.pairwise_iff_getElem];intro i j hi hj hij;induction j with
 | zero=>omega
 | succ j ih=>
   rcases Nat.eq_or_lt_of_le (Nat.le_of_lt_succ hij) with e | e
   · subst e;exact h i hj
   · exact cmpB_trans (ih (by omega) e) (h j hj)
theorem adj_take {fs:List Fld} {k:Nat} {f:Fld} (h:Adj (fs.take k)) (hf:fs[k]?=some f) (hp:∀g,k≠0->fs[k - 1]?=some g->cmpB g.1 f.1<0):Adj (fs.take (k+1)):=by
 obtain ⟨hk,rfl⟩:=List.getElem?_eq_some_iff.1 hf;intro j hj;rw [List.length_take] at hj;rw [List.getElem_take,List.getElem_take];rcases Nat.lt_or_ge (j+1) k with h1 | h1
 · have:=h j (by rw [List.length_take];omega)
   rwa [List.getElem_take,List.getElem_take] at this
 · have:j+1=k:=by omega
   subst this;exact hp fs[j] (by omega) (by simp)
theorem Fk:∀(a b:List UInt8),Op.bytesLess a b=decide (Lib.compareBytes a b<0)
 | [],[]=>rfl
 | [],_ :: _=>rfl
 | _ :: _,[]=>rfl
 | x :: a,y :: b=>by
   unfold Op.bytesLess Lib.compareBytes;by_cases h1:x<y
   · simp [h1]
   · by_cases h2:y<x
     · have hne:x≠y:=fun e=>by subst e;exact h1 h2
       simp [h1,h2,hne]
     · have he:x=y:=UInt8.toNat_inj.1 (by rw [UInt8.lt_iff_toNat_lt] at h1 h2;omega)
       subst he;simp [Fk a b]
theorem toList_data (a:ByteArray):a.toList=a.data.toList:=ByteArray.toList_eq a
def QP (w:World) (p:Prop) (e:Ending) (w' : World):Prop:=∃q:Bool,e=.returned (.bool q)/\(q=true ↔ p)/\Below w.heap.size w w'
theorem Fy {w w' : World} {p:Prop} {e:Ending} (h:e=.returned (.bool true)) (hp:p) (hb:Below w.heap.size w w'):QP w p e w' := ⟨true,h,⟨fun _=>hp,fun _=>rfl⟩,hb⟩
theorem Ba {w w' : World} {p:Prop} {e:Ending} (h:e=.returned (.bool false)) (hp:¬p) (hb:Below w.heap.size w w'):QP w p e w' := ⟨false,h,⟨fun h=>(by cases h),fun h=>absurd h hp⟩,hb⟩
theorem qp_q {w:World} {P:Program} {f:FuncId} {args:Array Value} {p:Prop} {q:Bool} (h:Calls P f args w (QP w p)) (hq:q=true ↔ p):Calls P f args w fun e w' => e=.returned (.bool q)/\Below w.heap.size w w' :=
 h.mono fun e w' ⟨b,he,hb,hbl⟩=>⟨by
   have:b=q:=by rw [Bool.eq_iff_iff];exact hb.trans hq.symm
   rw [he,this],hbl⟩
theorem less_cmpB (a b:ByteArray):Op.bytesLess a.toList b.toList=decide (cmpB a b<0):=by
 rw [toList_data,toList_data,Fk];rfl
theorem empty_facts {t:ByteArray} (h:t≠⟨#[]⟩):(t.toList == (⟨#[]⟩:ByteArray).toList)=false/\t.toList.isEmpty=false/\¬t.toList=[]:=by
 have h2:t.toList.isEmpty=false:=by
   cases h3:t.toList with
   | nil=>exact absurd (Dl (b:=⟨#[]⟩) (by rw [h3,ByteArray.toList_eq])) h
   | cons x r=>rfl
 exact ⟨str_ne h,h2,by intro h3;rw [h3] at h2;cases h2⟩
set_option maxRecDepth 100000 in
set_option maxHeartbeats 6400000 in
theorem rright_any (k:Int) (t:ByteArray) (a:Option Addr) (n cap:Nat) (fs:List Fld) (w:World) (hr:RF w a n cap fs) (hn:n<=100000000) :
   Calls Tryz.prog 21 #[.agg #[.int .i64 k,.string t,.slice a n cap]] w (QP w (C8 k t fs)):=by
 have hl:=hr.len
 have hal:=(Below.refl w.heap.size w).alloc (Nat.le_refl _) (.cells #[.int .i64 k,.string t,.slice a n cap] 24)
 replace hal:=Hd hal
 by_cases k1:k=1
 · subst k1
   have hiff:C8 1 t fs ↔ t.size<=4096/\n=0:=by unfold C8;rw [hl];simp
   replace hiff:=Hd hiff;clear hr hl;by_cases c1:t.size<=4096
   · have c1' : (t.size:Int)<=4096:=by omega
     by_cases c2:n=0
     · have c2' : ((n:Int) == 0)=true:=by simp [c2]
       replace c2:=Hd c2
       go_enter Tryz.func21,Tryz.ntmps21
       go_wp2;go_ret;exact Fy rfl (hiff.out.2 ⟨c1,c2.out⟩) hal.out
     · have c2' : ((n:Int) == 0)=false:=by simp [c2]
       go_enter Tryz.func21,Tryz.ntmps21
       go_wp2;go_ret;exact Ba rfl (fun h=>c2 (hiff.out.1 h).2) hal.out
   · have c1' : ¬(t.size:Int)<=4096:=by omega
     go_enter Tryz.func21,Tryz.ntmps21
     go_wp2;go_ret;exact Ba rfl (fun h=>c1 (hiff.out.1 h).1) hal.out
 have k1' : (k == 1)=false:=by simpa using k1
 by_cases k2:k=2
 case neg=>
   have k2' : (k != 2)=true:=by simpa using k2
   have hno:¬C8 k t fs:=by unfold C8;rintro (⟨h,_⟩ | ⟨h,_⟩);exact k1 h;exact k2 h
   replace hno:=Hd hno;clear hr hl k1 k2
   go_enter Tryz.func21,Tryz.ntmps21
   go_wp2;go_ret;exact Ba rfl hno.out hal.out
 subst k2
 clear k1 k1'
 have hiff:C8 2 t fs->t=⟨#[]⟩/\1<=n/\n<=256/\(∀f∈fs,fineF f)/\Srt fs:=by
   unfold C8;rw [hl];rintro (⟨h,_⟩ | ⟨_,h⟩)
   · cases h
   · exact h
 replace hiff:=Hd hiff
 by_cases c1:t=⟨#[]⟩
 case neg=>
   obtain ⟨c1a,c1b,c1c⟩:=empty_facts c1;have c1d:(t.toList != (⟨#[]⟩:ByteArray).toList)=true:=by simp only [bne,c1a];rfl
   replace c1:=Hd c1;clear hr hl
   go_enter Tryz.func21,Tryz.ntmps21
   go_wp2;go_ret;exact Ba rfl (fun h=>c1.out (hiff.out h).1) hal.out
 subst c1
 by_cases c2:n=0
 · have c2' : ((n:Int) == 0)=true:=by simp [c2]
   replace c2:=Hd c2;clear hr hl
   go_enter Tryz.func21,Tryz.ntmps21
   go_wp2;go_ret;exact Ba rfl (fun h=>by have:=(hiff.out h).2.1;have:=c2.out;omega) hal.out
 have c2' : ((n:Int) == 0)=false:=by simp [c2]
 by_cases c3:256<n
 · have c3' : (256:Int)<n:=by omega
   clear hr hl
   go_enter Tryz.func21,Tryz.ntmps21
   go_wp2;go_ret;exact Ba rfl (fun h=>by have:=(hiff.out h).2.2.1;omega) hal.out
 have c3' : ¬(256:Int)<n:=by omega
 replace hl:=Hd hl
 replace hr:=Hd hr
 go_enter Tryz.func21,Tryz.ntmps21
 go_wp2_with fail
 go_loopw [41] (fun i wr=>∃j:Nat,j<=n/\i=.int .i64 j/\(∀f∈fs.take j,fineF f)/\Adj (fs.take j)/\Below w.heap.size w wr/\wr.cell? ⟨w.heap.size,2,none⟩=some (.slice a n cap)) (fun i _=>n - (intOf i).toNat)
 case atStart=>exact ⟨0,Nat.zero_le _,rfl,by simp,(fun j hj=>by simp at hj),hal.out,World.cell?_alloc_new _ _ _ 2⟩
 case round=>
   obtain ⟨j,hj,rfl,htk,hadj,hbel,g2⟩:=hrel;replace htk:=Hd htk;replace hadj:=Hd hadj;by_cases hlt:j<n
   · obtain ⟨b,o,f,hf,rfl,d0,d1⟩:=hr.out.at hlt
     replace d0:=Aa hbel d0;replace d1:=Aa hbel d1;obtain ⟨W7,hW7⟩:∃W7,W7=wr.alloc (.cells #[.string f.1,.string f.2] 53):=⟨_,rfl⟩;have hb7:Below w.heap.size w W7:=by rw [hW7];exact hbel.alloc hbel.size _
     have hbw:Below wr.heap.size wr W7:=by rw [hW7];exact (Below.refl _ _).alloc (Nat.le_refl _) _
     have p0:W7.cell? ⟨wr.heap.size,0,none⟩=some (.string f.1):=by rw [hW7,World.cell?_alloc_new];rfl
     have p1:W7.cell? ⟨wr.heap.size,1,none⟩=some (.string f.2):=by rw [hW7,World.cell?_alloc_new];rfl
     go_upto_region 8 with fail
     rw [<-hW7];replace hf:=Hd hf;replace g2:=Aa hbw g2;clear d0 d1;replace hW7:=Hd hW7;have z8:wr.heap.size<W7.heap.size:=World.block_lt_of_cell? _ _ p0;have z9:w.heap.size<W7.heap.size:=World.block_lt_of_cell? _ _ g2;by_cases e1:512<f.1.size
     · have e1' : (512:Int)<f.1.size:=by omega
       refine Aq (by kernel_rfl) (by kernel_rfl) ?_;repeat (go_big_quiet_step (fail))
       refine wpQuiet_nil ?_;rintro _ ⟨xq,rfl⟩;have hbq:=hb7.trans ((As W7 xq).mono hb7.size);clear p0 p1 g2;go_wp2;go_ret;exact Ba rfl (fun h=>by have:=(hiff.out h).2.2.2.1 f (List.mem_of_getElem? hf.out);unfold fineF at this;omega) hbq
     have e1' : ¬(512:Int)<f.1.size:=by omega
     by_cases e2:4096<f.2.size
     · have e2' : (4096:Int)<f.2.size:=by omega
       refine Aq (by kernel_rfl) (by kernel_rfl) ?_;repeat (go_big_quiet_step (fail))
       refine wpQuiet_nil ?_;rintro _ ⟨xq,rfl⟩;have hbq:=hb7.trans ((As W7 xq).mono hb7.size);clear p0 p1 g2;go_wp2;go_ret;exact Ba rfl (fun h=>by have:=(hiff.out h).2.2.2.1 f (List.mem_of_getElem? hf.out);unfold fineF at this;omega) hbq
     have e2' : ¬(4096:Int)<f.2.size:=by omega
     have hfine:fineF f:=⟨by omega,by omega⟩;replace hfine:=Hd hfine;by_cases hj0:j=0
     · subst hj0
       have hadj' : Adj (fs.take 1):=adj_take hadj.out hf.out (fun g h=>absurd rfl h);replace hadj' := Hd hadj';refine Aq (by kernel_rfl) (by kernel_rfl) ?_;repeat (go_big_quiet_step (fail))
       refine wpQuiet_nil ?_;rintro _ ⟨xq,rfl⟩;have hbq:=hb7.trans ((As W7 xq).mono hb7.size);have gg2:=Aa (As W7 xq) g2;clear p0 p1 g2;go_wp2
       go_roundw
       case rel=>exact ⟨1,by omega,by go_num,take_all htk.out hf.out hfine.out,hadj'.out,hbq,gg2⟩
       case measure=>simp [intOf];omega
     · obtain ⟨m,hm⟩:∃m,j=m+1:=⟨j - 1,by omega⟩
       obtain ⟨b', o', g,hg,hab,e0,e3⟩:=hr.out.at (show m<n by omega);simp only [Option.some.injEq,Addr.mk.injEq,and_true] at hab;obtain ⟨rfl,rfl⟩:=hab;replace e0:=Aa (hb7) e0;replace e3:=Aa (hb7) e3;have hj1:0<j:=by omega
       have hj2:IntKind.i64.wrap ((j:Int) - 1)=(m:Int):=by rw [IntWalk.i64_in _ (by omega)];omega
       have hm0:(0:Int)<=(m:Int):=by omega
       have hm1:(m:Int)<(n:Int):=by omega
       have zb:b<W7.heap.size:=World.block_lt_of_cell? _ _ e0;have hless:=less_cmpB g.1 f.1;replace hg:=Hd hg;by_cases hcn:cmpB g.1 f.1<0
       · have hls:Op.bytesLess g.1.toList f.1.toList=true:=by rw [hless];simpa using hcn
         have hadj' : Adj (fs.take (j+1)):=adj_take hadj.out hf.out (fun g' _ h=>by
           have e:fs[m]?=some g' := by rw [<-h,hm];rfl
           have:g' = g:=by have:=hg.out;rw [e] at this;exact Option.some.inj this
           rw [this];exact hcn)
         replace hadj' := Hd hadj';replace hm:=Hd hm;clear hless hcn;refine Aq (by kernel_rfl) (by kernel_rfl) ?_;repeat (go_big_quiet_step (fail))
         refine wpQuiet_nil ?_;rintro _ ⟨xq,rfl⟩;have hbq:=hb7.trans ((As W7 xq).mono hb7.size);have gg2:=Aa (As W7 xq) g2;clear p0 p1 g2 e0 e3 hj2 hm0 hm1 hls;go_wp2
         go_roundw
         case rel=>exact ⟨j+1,by omega,by go_num,take_all htk.out hf.out hfine.out,hadj'.out,hbq,gg2⟩
         case measure=>simp [intOf];omega
       · have hls:Op.bytesLess g.1.toList f.1.toList=false:=by rw [hless];simpa using hcn
         have hno:¬C8 2 ⟨#[]⟩ fs:=fun h=>by
           have h:=(hiff.out h).2.2.2.2;obtain ⟨hjl,hfe⟩:=List.getElem?_eq_some_iff.1 hf.out;obtain ⟨hml,hge⟩:=List.getElem?_eq_some_iff.1 hg.out;have:=List.pairwise_iff_getElem.1 h m j hml hjl (by omega);rw [hfe,hge] at this;exact hcn this
         replace hno:=Hd hno;replace hm:=Hd hm;clear hless hcn;refine Aq (by kernel_rfl) (by kernel_rfl) ?_;repeat (go_big_quiet_step (fail))
         refine wpQuiet_nil ?_;rintro _ ⟨xq,rfl⟩;have hbq:=hb7.trans ((As W7 xq).mono hb7.size);clear p0 p1 g2 e0 e3 hj2 hm0 hm1 hls;go_wp2;go_ret;exact Ba rfl hno.out hbq
   · have hjn:j=n:=by omega
     subst hjn;have hsrt:Srt fs:=srt_of_adj (by have:=hadj.out;rwa [List.take_of_length_le (by rw [hl.out];exact Nat.le_refl _)] at this);have hyes:C8 2 ⟨#[]⟩ fs:=Or.inr ⟨rfl,rfl,by rw [hl.out];omega,by rw [hl.out];omega,take_whole htk.out hl.out,hsrt⟩;replace hyes:=Hd hyes;clear hsrt htk hadj hr hl;go_wp2;go_ret;exact Fy rfl hyes.out hbel
theorem fld_eq (f g:Fld) (W:World):(Op.equalIn 10000 53 (.agg #[.string f.1,.string f.2]) (.agg #[.string g.1,.string g.2])).run Tryz.prog W=.ok (decide (f=g)) W:=by
 have hS:Tryz.prog.underlying 53=some (.struct (Tryz.prog.fieldsOf 53)):=by kernel_rfl
 have hp:Tryz.prog.stoodInHeld 53=false:=by kernel_rfl
 have u9:=Tryz.underlying9;rw [show (10000:Nat)=9999+1 from rfl,run_equalIn_agg W 9999 53 _ _ hS hp];simp only [Program.fieldsOf,Tryz.underlying53]
 go_simp
 have e:f=g ↔ f.1=g.1/\f.2=g.2:=Prod.ext_iff;have s1:f.1.toList=g.1.toList ↔ f.1=g.1:=⟨Dl, fun h=>by rw [h]⟩;have s2:f.2.toList=g.2.toList ↔ f.2=g.2:=⟨Dl, fun h=>by rw [h]⟩;by_cases h1:f.1=g.1<;>by_cases h2:f.2=g.2<;>simp [e,h1,h2,s1,s2]
theorem fld_guard:Tryz.prog.eqGuardType Tryz.prog.depth 53=false:=by kernel_rfl
theorem fields_ext {fs gs:List Fld} {n:Nat} (h1:fs.length=n) (h2:gs.length=n) (h:fs.take n=gs.take n):fs=gs:=by
 rwa [List.take_of_length_le (by omega),List.take_of_length_le (by omega)] at h
theorem take_snoc_eq {fs gs:List Fld} {k:Nat} {f g:Fld} (hf:fs[k]?=some f) (hg:gs[k]?=some g) (h:fs.take k=gs.take k):fs.take (k+1)=gs.take (k+1) ↔ f=g:=by
 obtain ⟨h1,rfl⟩:=List.getElem?_eq_some_iff.1 hf;obtain ⟨h2,rfl⟩:=List.getElem?_eq_some_iff.1 hg;rw [List.take_succ_eq_append_getElem h1,List.take_succ_eq_append_getElem h2,h,List.append_right_inj,List.cons.injEq];simp only [and_true]
def SameI (k:Int) (t:ByteArray) (fs:List Fld) (k' : Int) (t' : ByteArray) (gs:List Fld):Prop:=k=k' /\ t=t' /\ fs=gs
set_option maxRecDepth 100000 in
set_option maxHeartbeats 6400000 in
theorem rsame9_any (k:Int) (t:ByteArray) (a:Option Addr) (n cap:Nat) (fs:List Fld) (k' : Int) (t' : ByteArray) (a' : Option Addr) (n' cap' : Nat) (gs:List Fld) (w:World) (hr:RF w a n cap fs) (hr' : RF w a' n' cap' gs) (hn:n<=100000000) :
   Calls Tryz.prog 14 #[.agg #[.int .i64 k,.string t,.slice a n cap],.agg #[.int .i64 k', .string t', .slice a' n' cap']] w (QP w (SameI k t fs k' t' gs)):=by
 have hl:=hr.len
 have hl' := hr'.len
 obtain ⟨W2,hW2⟩:∃W2,W2=(w.alloc (.cells #[.int .i64 k,.string t,.slice a n cap] 24)).alloc (.cells #[.int .i64 k', .string t', .slice a' n' cap'] 24):=⟨_,rfl⟩
 have hb2:Below w.heap.size w W2:=by rw [hW2];exact ((Below.refl w.heap.size w).alloc (Nat.le_refl _) _).alloc (by simp) _
 have g2:W2.cell? ⟨w.heap.size,2,none⟩=some (.slice a n cap):=by rw [hW2,World.cell?_alloc_past _ _ _ (by simp),World.cell?_alloc_new];rfl
 have h2:W2.cell? ⟨w.heap.size+1,2,none⟩=some (.slice a' n' cap'):=by
   rw [hW2,show w.heap.size+1=(w.alloc (.cells #[.int .i64 k,.string t,.slice a n cap] 24)).heap.size by simp,World.cell?_alloc_new];rfl
 replace hb2:=Hd hb2
 replace g2:=Hd g2
 replace h2:=Hd h2
 by_cases c1:k=k'
 case neg=>
   have c1' : (k != k')=true:=by simpa using c1
   have hno:¬SameI k t fs k' t' gs:=fun h=>c1 h.1;replace hno:=Hd hno;rw [hW2] at hb2;clear hr hr' c1 hl hl' g2 h2 hW2
   go_enter Tryz.func14,Tryz.ntmps14
   go_wp2;go_ret;exact Ba rfl hno.out hb2.out
 have c1' : (k != k')=false:=by simpa using c1
 by_cases c2:t=t'
 case neg=>
   have c2' := str_ne c2;have c2'' : (t.toList != t'.toList)=true:=by simp only [bne,c2'];rfl
   have hno:¬SameI k t fs k' t' gs:=fun h=>c2 h.2.1;replace hno:=Hd hno;rw [hW2] at hb2;clear hr hr' c1 c2 hl hl' g2 h2 hW2
   go_enter Tryz.func14,Tryz.ntmps14
   go_wp2;go_ret;exact Ba rfl hno.out hb2.out
 have c2' := str_eq c2
 have c2'' : (t.toList != t'.toList)=false:=by simp only [bne,c2'];rfl
 have hiff:SameI k t fs k' t' gs ↔ fs=gs:=⟨fun h=>h.2.2,fun h=>⟨c1,c2,h⟩⟩
 replace hiff:=Hd hiff
 clear c1 c2
 by_cases c3:n=n'
 case neg=>
   have c3' : ((n:Int) != (n' : Int))=true:=by simp;omega
   have hno:¬SameI k t fs k' t' gs:=fun e=>c3 (by rw [<-hl,<-hl', hiff.out.1 e]);replace hno:=Hd hno;rw [hW2] at hb2;clear hr hr' hl hl' g2 h2 hW2
   go_enter Tryz.func14,Tryz.ntmps14
   go_wp2;go_ret;exact Ba rfl hno.out hb2.out
 subst c3
 have c3' : ((n:Int) != (n:Int))=false:=by simp
 replace hl:=Hd hl
 replace hl' := Hd hl'
 replace hr:=Hd hr
 replace hr' := Hd hr'
 have hgd:=fld_guard
 go_enter Tryz.func14,Tryz.ntmps14
 go_wp2_with fail
 rw [<-hW2]
 replace hW2:=Hd hW2
 go_loopw [30] (fun i wr=>∃j:Nat,j<=n/\i=.int .i64 j/\fs.take j=gs.take j/\Below W2.heap.size W2 wr) (fun i _=>n - (intOf i).toNat)
 case atStart=>exact ⟨0,Nat.zero_le _,rfl,rfl,Below.refl _ _⟩
 case round=>
   obtain ⟨j,hj,rfl,htk,hbel2⟩:=hrel;have hbel:=hb2.out.trans (hbel2.mono hb2.out.size);have gg2:=Aa hbel2 g2.out;have hh2:=Aa hbel2 h2.out;replace htk:=Hd htk;by_cases hlt:j<n
   · obtain ⟨b,o,f,hf,rfl,d0,d1⟩:=hr.out.at hlt
     obtain ⟨b', o', g,hg,rfl,e0,e1⟩:=hr'.out.at hlt;replace d0:=Aa hbel d0;replace d1:=Aa hbel d1;replace e0:=Aa hbel e0;replace e1:=Aa hbel e1;have z1:b<wr.heap.size:=World.block_lt_of_cell? _ _ d0;have z2:b' < wr.heap.size:=World.block_lt_of_cell? _ _ e0;have z3:w.heap.size<wr.heap.size:=World.block_lt_of_cell? _ _ gg2;have z4:w.heap.size+1<wr.heap.size:=World.block_lt_of_cell? _ _ hh2;have i0:(0:Int)<=(j:Int):=by omega
     have i1:(j:Int)<(n:Int):=by omega
     have hq:=fld_eq f g;have hst:=take_snoc_eq hf hg htk.out;replace hst:=Hd hst;replace hf:=Hd hf;replace hg:=Hd hg;by_cases hfg:f=g
     · rw [decide_eq_true hfg] at hq
       replace hfg:=Hd hfg;go_upto_region 6 with fail
       refine Aq (by kernel_rfl) (by kernel_rfl) ?_;repeat (go_big_quiet_step (fail))
       refine wpQuiet_nil ?_;rintro _ ⟨xq,rfl⟩;have hbq:=hbel2.trans ((As wr xq).mono hbel2.size);clear hq d0 d1 e0 e1 gg2 hh2;go_wp2
       go_roundw
       case rel=>exact ⟨j+1,by omega,by go_num,hst.out.2 hfg.out,hbq⟩
       case measure=>simp [intOf];omega
     · rw [decide_eq_false hfg] at hq
       have hno:¬SameI k t fs k' t' gs:=fun e=>hfg (hst.out.1 (by rw [hiff.out.1 e]));replace hno:=Hd hno;replace hfg:=Hd hfg;go_upto_region 6 with fail
       refine Aq (by kernel_rfl) (by kernel_rfl) ?_;repeat (go_big_quiet_step (fail))
       refine wpQuiet_nil ?_;rintro _ ⟨xq,rfl⟩;have hbq:=hbel.trans ((As wr xq).mono hbel.size);clear hq d0 d1 e0 e1 gg2 hh2;go_wp2;go_ret;exact Ba rfl hno.out hbq
   · have hjn:j=n:=by omega
     subst hjn;have he:=hiff.out.2 (fields_ext hl.out hl'.out htk.out);replace he:=Hd he;clear gg2 hh2;go_wp2;go_ret;exact Fy rfl he.out hbel
def Da (fs:List Fld):Nat:=(fs.map fun f=>16+f.1.size+f.2.size).sum
def Ga (key:ByteArray) (k:Int) (t:ByteArray) (fs:List Fld):Nat:=if k=1 then 48+key.size+(if (wP t.data.toList).isSome then 8 else t.size) else 48+key.size+Da fs
def F7 (f:Fld):Prop:=f.1.size<=100000/\f.2.size<=100000
theorem costF_append (a b:List Fld):Da (a++b)=Da a+Da b:=by unfold Da;rw [List.map_append,List.sum_append]
theorem costF_take {fs:List Fld} {j:Nat} {f:Fld} (h:fs[j]?=some f):Da (fs.take (j+1))=Da (fs.take j)+(16+f.1.size+f.2.size):=by
 obtain ⟨h1,rfl⟩:=List.getElem?_eq_some_iff.1 h;rw [List.take_succ_eq_append_getElem h1,costF_append];rfl
theorem costF_le:∀{fs:List Fld},(∀f∈fs,F7 f)->Da fs<=fs.length * 200016
 | [],_=>by simp [Da]
 | f :: fs,h=>by
   have h1:=costF_le (fs:=fs) fun g hg=>h g (List.mem_cons_of_mem _ hg);have h2:=h f (by simp);unfold F7 at h2;have:Da (f :: fs)=(16+f.1.size+f.2.size)+Da fs:=by unfold Da;rw [List.map_cons,List.sum_cons]
   rw [this,List.length_cons];omega
theorem costF_take_le {fs:List Fld} (h:∀f∈fs,F7 f) (j:Nat):Da (fs.take j)<=j * 200016:=by
 have h1:=costF_le (fs:=fs.take j) fun g hg=>h g (List.mem_of_mem_take hg);exact Nat.le_trans h1 (Nat.mul_le_mul_right _ (List.length_take_le _ _))
set_option maxRecDepth 100000 in
set_option maxHeartbeats 6400000 in
theorem cost_any (key:ByteArray) (k:Int) (t:ByteArray) (a:Option Addr) (n cap:Nat) (fs:List Fld) (w:World) (hr:RF w a n cap fs) (hn:n<=100000) (hk:key.size<=1000000) (ht:t.size<=1000000) (hm:∀f∈fs,F7 f) (hN:Nums w) :
   Calls Tryz.prog 20 #[.string key,.agg #[.int .i64 k,.string t,.slice a n cap]] w fun e w' => e=.returned (.int .i64 (Ga key k t fs))/\Below w.heap.size w w' := by
 have hpar:∀W,Below w.heap.size w W->Calls Tryz.prog 23 #[.string t] W (Ey (wP t.data.toList) 11 W):=fun W hb=>D7 t (by omega) W (hN.below hb)
 clear hN
 replace hpar:∀W,W=w.alloc (.cells #[.int .i64 k,.string t,.slice a n cap] 24)->Calls Tryz.prog 23 #[.string t] W (Ey (wP t.data.toList) 11 W):=fun W e=>hpar W (by rw [e];exact (Below.refl _ _).alloc (Nat.le_refl _) _)
 have hl:=hr.len
 have hal:=(Below.refl w.heap.size w).alloc (Nat.le_refl _) (.cells #[.int .i64 k,.string t,.slice a n cap] 24)
 have h48:IntKind.i64.wrap (48+(key.size:Int))=48+(key.size:Int):=IntWalk.i64_in _ (by omega)
 by_cases k1:k=1
 · subst k1
   replace hal:=Hd hal;replace hpar:=Hd hpar;clear hr hl hm;cases hw:(wP t.data.toList).isSome with
   | true=>
     have hz:Ga key 1 t fs=48+key.size+8:=by unfold Ga;rw [hw];simp
     have ei:(if (wP t.data.toList).isSome=true then (0:Int) else 11)=0:=by rw [hw];rfl
     have h56:IntKind.i64.wrap (48+(key.size:Int)+8)=((48+key.size+8:Nat):Int):=by rw [IntWalk.i64_in _ (by omega)];omega
     rw [hz];replace hw:=Hd hw;replace hz:=Hd hz
     go_enter Tryz.func20,Tryz.ntmps20
     go_wp2_with fail
     refine (hpar.out _ (by simp)).mono ?_;rintro e w1 ⟨rfl,hb1⟩;have hbel:=hal.out.trans (hb1.mono hal.out.size);clear hb1;rw [ei];go_wp2;go_ret;exact ⟨by first | rfl | (rw [h56]),hbel⟩
   | false=>
     have hz:Ga key 1 t fs=48+key.size+t.size:=by unfold Ga;rw [hw];simp
     have ei:(if (wP t.data.toList).isSome=true then (0:Int) else 11)=11:=by rw [hw];rfl
     have h56:IntKind.i64.wrap (48+(key.size:Int)+(t.size:Int))=((48+key.size+t.size:Nat):Int):=by rw [IntWalk.i64_in _ (by omega)];omega
     rw [hz];have hsz:=World.cell?_alloc_new w #[.int .i64 1,.string t,.slice a n cap] 24 1;replace hw:=Hd hw;replace hz:=Hd hz
     go_enter Tryz.func20,Tryz.ntmps20
     go_wp2_with fail
     refine (hpar.out _ (by simp)).mono ?_;rintro e w1 ⟨rfl,hb1⟩;have hbel:=hal.out.trans (hb1.mono hal.out.size);have g1:w1.cell? ⟨w.heap.size,1,none⟩=some (.string t):=by rw [hb1.cell (by simp)];exact hsz
     clear hb1 hsz;rw [ei];go_wp2;go_ret;exact ⟨by first | rfl | (rw [h56]),hbel⟩
 have k1' : (k == 1)=false:=by simpa using k1
 have hz:Ga key k t fs=48+key.size+Da fs:=by unfold Ga;rw [if_neg k1]
 rw [hz]
 replace hz:=Hd hz
 replace hal:=Hd hal
 replace hl:=Hd hl
 replace hr:=Hd hr
 replace hm:=Hd hm
 replace hpar:=Hd hpar
 clear k1
 go_enter Tryz.func20,Tryz.ntmps20
 go_wp2_with fail
 go_loopw [5,34] (fun s5 i wr=>∃(j c:Nat),j<=n/\i=.int .i64 j/\s5=.int .i64 c/\c=48+key.size+Da (fs.take j)/\Below w.heap.size w wr) (fun _ i _=>n - (intOf i).toNat)
 case atStart=>exact ⟨0,48+key.size,Nat.zero_le _,rfl,by go_num,rfl,hal.out⟩
 case round=>
   obtain ⟨j,c,hj,rfl,rfl,hc,hbel⟩:=hrel;have hcb:c<=1048+1000000+100000 * 200016:=by
     have:=costF_take_le hm.out j;have:j * 200016<=100000 * 200016:=Nat.mul_le_mul_right _ (by omega);omega
   by_cases hlt:j<n
   · obtain ⟨b,o,f,hf,rfl,d0,d1⟩:=hr.out.at hlt
     replace d0:=Aa hbel d0;replace d1:=Aa hbel d1;have hal2:=hbel.alloc hbel.size (.cells #[.string f.1,.string f.2] 53);have hfm:=hm.out f (List.mem_of_getElem? hf);unfold F7 at hfm;obtain ⟨m1,m2⟩:=hfm;have hc' : c+(16+f.1.size+f.2.size)=48+key.size+Da (fs.take (j+1)):=by rw [costF_take hf];omega
     replace hc' := Hd hc';replace hc:=Hd hc;replace hf:=Hd hf;replace hal2:=Hd hal2;go_wp2
     go_roundw
     case rel=>exact ⟨j+1,c+(16+f.1.size+f.2.size),by omega,by go_num,by go_num,hc'.out,hal2.out⟩
     case measure=>simp [intOf];omega
   · have hjn:j=n:=by omega
     subst hjn;rw [List.take_of_length_le (by rw [hl.out];exact Nat.le_refl _)] at hc;subst hc;go_wp2;go_ret;exact ⟨rfl,hbel⟩
end Go.Proofs.YteoalcmhdoopnaaGreatDoor
