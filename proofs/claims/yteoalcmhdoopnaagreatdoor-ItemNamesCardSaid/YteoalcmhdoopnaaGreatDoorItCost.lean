/- item.Cost, and the document's. -/
import Derived.Test.YteoalcmhdoopnaaGreatDoorItem
import Derived.Laws.Cover1
import Derived.Deep.DeepCutAuto
import Derived.IntWalk
namespace Go.Proofs.YteoalcmhdoopnaaGreatDoor
open Go.RowKit
def Al (fs:List Fld):Nat:=(fs.map fun f=>16+f.1.size+f.2.size).sum
def Az (key:ByteArray) (k:Int) (t:ByteArray) (fs:List Fld):Nat:=if k=1 then 48+key.size+(if (wP t.data.toList).isSome then 8 else t.size) else 48+key.size+Al fs
def A3 (f:Fld):Prop:=f.1.size<=100000/\f.2.size<=100000
theorem costF_append (a b:List Fld):Al (a++b)=Al a+Al b:=by unfold Al;rw [List.map_append,List.sum_append]
theorem costF_take {fs:List Fld} {j:Nat} {f:Fld} (h:fs[j]?=some f):Al (fs.take (j+1))=Al (fs.take j)+(16+f.1.size+f.2.size):=by
 obtain ⟨h1,rfl⟩:=List.getElem?_eq_some_iff.1 h;rw [List.take_succ_eq_append_getElem h1,costF_append];rfl
theorem costF_le:∀{fs:List Fld},(∀f∈fs,A3 f)->Al fs<=fs.length * 200016
 | [],_=>by simp [Al]
 | f :: fs,h=>by
   have h1:=costF_le (fs:=fs) fun g hg=>h g (List.mem_cons_of_mem _ hg);have h2:=h f (by simp);unfold A3 at h2;have:Al (f :: fs)=(16+f.1.size+f.2.size)+Al fs:=by unfold Al;rw [List.map_cons,List.sum_cons]
   rw [this,List.length_cons];omega
theorem Bo {fs:List Fld} (h:∀f∈fs,A3 f) (j:Nat):Al (fs.take j)<=j * 200016:=by
 have h1:=costF_le (fs:=fs.take j) fun g hg=>h g (List.mem_of_mem_take hg);exact Nat.le_trans h1 (Nat.mul_le_mul_right _ (List.length_take_le _ _))
set_option maxRecDepth 100000 in
set_option maxHeartbeats 6400000 in
theorem cost_any (key:ByteArray) (k:Int) (t:ByteArray) (a:Option Addr) (n cap:Nat) (fs:List Fld) (w:World) (hr:RF w a n cap fs) (hn:n<=100000) (hk:key.size<=1000000) (ht:t.size<=1000000) (hm:∀f∈fs,A3 f) (hN:Nums w) :
   Calls Tryz.prog 20 #[.string key,.agg #[.int .i64 k,.string t,.slice a n cap]] w fun e w' => e=.returned (.int .i64 (Az key k t fs))/\Below w.heap.size w w' := by
 have hpar:∀W,Below w.heap.size w W->Calls Tryz.prog 23 #[.string t] W (NumOr (wP t.data.toList) 11 W):=fun W hb=>A1 t (by omega) W (hN.below hb)
 clear hN
 replace hpar:∀W,W=w.alloc (.cells #[.int .i64 k,.string t,.slice a n cap] 24)->Calls Tryz.prog 23 #[.string t] W (NumOr (wP t.data.toList) 11 W):=fun W e=>hpar W (by rw [e];exact (Below.refl _ _).alloc (Nat.le_refl _) _)
 have hl:=hr.len
 have hal:=(Below.refl w.heap.size w).alloc (Nat.le_refl _) (.cells #[.int .i64 k,.string t,.slice a n cap] 24)
 have h48:IntKind.i64.wrap (48+(key.size:Int))=48+(key.size:Int):=IntWalk.i64_in _ (by omega)
 by_cases k1:k=1
 · subst k1
   replace hal:=Hd hal;replace hpar:=Hd hpar;clear hr hl hm;cases hw:(wP t.data.toList).isSome with
   | true=>
     have hz:Az key 1 t fs=48+key.size+8:=by unfold Az;rw [hw];simp
     have ei:(if (wP t.data.toList).isSome=true then (0:Int) else 11)=0:=by rw [hw];rfl
     have h56:IntKind.i64.wrap (48+(key.size:Int)+8)=((48+key.size+8:Nat):Int):=by rw [IntWalk.i64_in _ (by omega)];omega
     rw [hz];replace hw:=Hd hw;replace hz:=Hd hz
     go_enter Tryz.func20,Tryz.ntmps20
     go_wp2_with fail
     refine (hpar.out _ (by simp)).mono ?_;rintro e w1 ⟨rfl,hb1⟩;have hbel:=hal.out.trans (hb1.mono hal.out.size);clear hb1;rw [ei];go_wp2;go_ret;exact ⟨by first | rfl | (rw [h56]),hbel⟩
   | false=>
     have hz:Az key 1 t fs=48+key.size+t.size:=by unfold Az;rw [hw];simp
     have ei:(if (wP t.data.toList).isSome=true then (0:Int) else 11)=11:=by rw [hw];rfl
     have h56:IntKind.i64.wrap (48+(key.size:Int)+(t.size:Int))=((48+key.size+t.size:Nat):Int):=by rw [IntWalk.i64_in _ (by omega)];omega
     rw [hz];have hsz:=World.cell?_alloc_new w #[.int .i64 1,.string t,.slice a n cap] 24 1;replace hw:=Hd hw;replace hz:=Hd hz
     go_enter Tryz.func20,Tryz.ntmps20
     go_wp2_with fail
     refine (hpar.out _ (by simp)).mono ?_;rintro e w1 ⟨rfl,hb1⟩;have hbel:=hal.out.trans (hb1.mono hal.out.size);have g1:w1.cell? ⟨w.heap.size,1,none⟩=some (.string t):=by rw [hb1.cell (by simp)];exact hsz
     clear hb1 hsz;rw [ei];go_wp2;go_ret;exact ⟨by first | rfl | (rw [h56]),hbel⟩
 have k1' : (k == 1)=false:=by simpa using k1
 have hz:Az key k t fs=48+key.size+Al fs:=by unfold Az;rw [if_neg k1]
 rw [hz]
 replace hz:=Hd hz
 replace hal:=Hd hal
 replace hl:=Hd hl
 replace hr:=Hd hr
 replace hm:=Hd hm
 replace hpar:=Hd hpar
 clear k1
 go_enter Tryz.func20,Tryz.ntmps20
 go_wp2_with fail
 go_loopw [5,34] (fun s5 i wr=>∃(j c:Nat),j<=n/\i=.int .i64 j/\s5=.int .i64 c/\c=48+key.size+Al (fs.take j)/\Below w.heap.size w wr) (fun _ i _=>n - (intOf i).toNat)
 case atStart=>exact ⟨0,48+key.size,Nat.zero_le _,rfl,by go_num,rfl,hal.out⟩
 case round=>
   obtain ⟨j,c,hj,rfl,rfl,hc,hbel⟩:=hrel;have hcb:c<=1048+1000000+100000 * 200016:=by
     have:=Bo hm.out j;have:j * 200016<=100000 * 200016:=Nat.mul_le_mul_right _ (by omega);omega
   by_cases hlt:j<n
   · obtain ⟨b,o,f,hf,rfl,d0,d1⟩:=hr.out.at hlt
     replace d0:=Aa hbel d0;replace d1:=Aa hbel d1;have hal2:=hbel.alloc hbel.size (.cells #[.string f.1,.string f.2] 53);have hfm:=hm.out f (List.mem_of_getElem? hf);unfold A3 at hfm;obtain ⟨m1,m2⟩:=hfm;have hc' : c+(16+f.1.size+f.2.size)=48+key.size+Al (fs.take (j+1)):=by rw [costF_take hf];omega
     replace hc' := Hd hc';replace hc:=Hd hc;replace hf:=Hd hf;replace hal2:=Hd hal2;go_wp2
     go_roundw
     case rel=>exact ⟨j+1,c+(16+f.1.size+f.2.size),by omega,by go_num,by go_num,hc'.out,hal2.out⟩
     case measure=>simp [intOf];omega
   · have hjn:j=n:=by omega
     subst hjn;rw [List.take_of_length_le (by rw [hl.out];exact Nat.le_refl _)] at hc;subst hc;go_wp2;go_ret;exact ⟨rfl,hbel⟩
end Go.Proofs.YteoalcmhdoopnaaGreatDoor
