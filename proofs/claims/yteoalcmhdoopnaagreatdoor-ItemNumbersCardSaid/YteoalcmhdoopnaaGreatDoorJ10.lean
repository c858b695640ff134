/- Fields in the order of their names, as lists: what is looked up, put and dropped. No program in sight. -/
import Derived.Test.YteoalcmhdoopnaaGreatDoorBase
import Derived.Lib.Bytealg
import Derived.Test.YteoalcmhdoopnaaGreatDoorWhole
import Derived.Test.YteoalcmhdoopnaaGreatDoorQuiet
import Derived.Laws.StructEq
namespace Go.Proofs.YteoalcmhdoopnaaGreatDoor
open Go.RowKit
theorem cmp_self:∀(a:List UInt8),Lib.compareBytes a a=0
 | []=>rfl
 | x :: a=>by
   unfold Lib.compareBytes;rw [if_neg (by simp [UInt8.lt_iff_toNat_lt]),if_neg (by simp [UInt8.lt_iff_toNat_lt])];exact cmp_self a
theorem cmp_trans:∀{a b c:List UInt8},Lib.compareBytes a b<0->Lib.compareBytes b c<0->Lib.compareBytes a c<0
 | [],[],_,h,_=>by simp [Lib.compareBytes] at h
 | [],_ :: _,[],_,h=>by simp [Lib.compareBytes] at h
 | [],_ :: _,_ :: _,_,_=>by simp [Lib.compareBytes]
 | _ :: _,[],_,h,_=>by simp [Lib.compareBytes] at h
 | _ :: _,_ :: _,[],_,h=>by simp [Lib.compareBytes] at h
 | x :: a,y :: b,z :: c,h1,h2=>by
   unfold Lib.compareBytes at h1 h2 ⊢;simp only [UInt8.lt_iff_toNat_lt] at h1 h2 ⊢;by_cases p1:x.toNat<y.toNat
   · by_cases p2:y.toNat<z.toNat
     · rw [if_pos (by omega)];omega
     · rw [if_neg p2] at h2
       by_cases p3:z.toNat<y.toNat
       · rw [if_pos p3] at h2;omega
       · rw [if_pos (by omega)];omega
   · rw [if_neg p1] at h1
     by_cases p4:y.toNat<x.toNat
     · rw [if_pos p4] at h1;omega
     · rw [if_neg p4] at h1
       by_cases p2:y.toNat<z.toNat
       · rw [if_pos (by omega)];omega
       · rw [if_neg p2] at h2
         by_cases p3:z.toNat<y.toNat
         · rw [if_pos p3] at h2;omega
         · rw [if_neg p3] at h2
           rw [if_neg (by omega),if_neg (by omega)];exact cmp_trans h1 h2
def cmpB (a b:ByteArray):Int:=Lib.compareBytes a.data.toList b.data.toList
theorem cmpB_trans {a b c:ByteArray} (h:cmpB a b<0) (k:cmpB b c<0):cmpB a c<0:=cmp_trans h k
abbrev Fld:=ByteArray × ByteArray
def fcells (f:Fld):List Value:=[.string f.1,.string f.2]
def Srt (fs:List Fld):Prop:=fs.Pairwise fun x y=>cmpB x.1 y.1<0
def flds (fs:List Fld):List Value:=fs.flatMap fcells
theorem flds_cons (f:Fld) (fs:List Fld):flds (f :: fs)=.string f.1 :: .string f.2 :: flds fs:=rfl
theorem Ew:∀(fs:List Fld),(flds fs).length=fs.length * 2
 | []=>rfl
 | f :: fs=>by rw [flds_cons,List.length_cons,List.length_cons,Ew fs,List.length_cons];omega
theorem flds_get:∀{fs:List Fld} {j:Nat} {f:Fld},fs[j]?=some f->(flds fs)[j * 2]?=some (.string f.1)/\(flds fs)[j * 2+1]?=some (.string f.2)
 | [],j,f,h=>by simp at h
 | g :: fs,0,f,h=>by simp at h;subst h;exact ⟨rfl,rfl⟩
 | g :: fs,j+1,f,h=>by
   rw [flds_cons];have:=flds_get (fs:=fs) (j:=j) (by simpa using h);rw [show (j+1) * 2=j * 2+1+1 by omega];simpa using this
def RF (w:World) (a:Option Addr) (n cap:Nat) (fs:List Fld):Prop:=Reads w 2 (.slice a n cap) n (flds fs)
theorem RF.len {w:World} {a:Option Addr} {n cap:Nat} {fs:List Fld} (h:RF w a n cap fs):fs.length=n:=by
 have:=(Reads.len h).2;rw [Ew] at this;omega
theorem RF.at {w:World} {a:Option Addr} {n cap:Nat} {fs:List Fld} (h:RF w a n cap fs) {j:Nat} (hj:j<n) :
   ∃(b o:Nat) (f:Fld),fs[j]?=some f/\a=some ⟨b,o,none⟩/\w.cell? ⟨b,o+j * 2,none⟩=some (.string f.1)/\w.cell? ⟨b,o+j * 2+1,none⟩=some (.string f.2):=by
 have hl:=h.len
 have hj' : j<fs.length:=by omega
 have hf:fs[j]?=some fs[j]:=List.getElem?_eq_getElem hj'
 obtain ⟨h1,h2⟩:=flds_get hf
 obtain ⟨b,o,ha,hc⟩:=Reads.at h (j:=j * 2) (by rw [Ew];omega)
 exact ⟨b,o,fs[j],hf,ha,hc _ _ h1,hc _ _ h2⟩
theorem RF.below {w w' : World} {a:Option Addr} {n cap:Nat} {fs:List Fld} (h:RF w a n cap fs) (hb:Below w.heap.size w w'):RF w' a n cap fs:=Reads.below h hb
theorem take_all {α:Type} {p:α->Prop} {l:List α} {k:Nat} {x:α} (h:∀y∈l.take k,p y) (hx:l[k]?=some x) (hp:p x):∀y∈l.take (k+1),p y:=by
 obtain ⟨hk,rfl⟩:=List.getElem?_eq_some_iff.1 hx;intro y hy;rw [List.take_succ_eq_append_getElem hk] at hy;rcases List.mem_append.1 hy with hy | hy
 · exact h y hy
 · simp only [List.mem_singleton] at hy;subst hy;exact hp
theorem take_whole {α:Type} {p:α->Prop} {l:List α} {k:Nat} (h:∀y∈l.take k,p y) (hk:l.length=k):∀y∈l,p y:=by
 intro y hy;exact h y (by rw [List.take_of_length_le (by omega)];exact hy)
theorem Aa {w w' : World} (hb:Below w.heap.size w w') {b q:Nat} {u:Value} (h:w.cell? ⟨b,q,none⟩=some u):w'.cell? ⟨b,q,none⟩=some u:=by
 rw [hb.cell (by exact World.block_lt_of_cell? _ _ h)];exact h
def smallF (f:Fld):Prop:=f.1.size<=600/\f.2.size<=5000
def GreatP (w:World) (n:Nat) (t:ByteArray) (fs:List Fld) (e:Ending) (w' : World):Prop:=∃g:Bool,e=.returned (.bool g)/\(g=false->n<=300/\t.size<=5000/\∀f∈fs,smallF f)/\Below w.heap.size w w'
theorem Ds {w w' : World} {n:Nat} {t:ByteArray} {fs:List Fld} {e:Ending} (h:e=.returned (.bool true)) (hb:Below w.heap.size w w'):GreatP w n t fs e w' := ⟨true,h,fun h=>(by cases h),hb⟩
set_option maxRecDepth 100000 in
set_option maxHeartbeats 1600000 in
theorem great_any (k:Int) (t:ByteArray) (a:Option Addr) (n cap:Nat) (fs:List Fld) (w:World) (hr:RF w a n cap fs) :
   Calls Tryz.prog 7 #[.agg #[.int .i64 k,.string t,.slice a n cap]] w (GreatP w n t fs):=by
 have hl:=hr.len
 have hal:=(Below.refl w.heap.size w).alloc (Nat.le_refl _) (.cells #[.int .i64 k,.string t,.slice a n cap] 24)
 replace hal:=Hd hal
 by_cases c1:300<n
 · clear hr hl
   have c1' : (300:Int)<n:=by omega
   go_enter Tryz.func7,Tryz.ntmps7
   go_wp2;go_ret;exact Ds rfl hal.out
 have c1' : ¬(300:Int)<n:=by omega
 by_cases c2:5000<t.size
 · clear hr hl
   have c2' : (5000:Int)<t.size:=by omega
   go_enter Tryz.func7,Tryz.ntmps7
   go_wp2;go_ret;exact Ds rfl hal.out
 have c2' : ¬(5000:Int)<t.size:=by omega
 replace hl:=Hd hl
 replace hr:=Hd hr
 go_enter Tryz.func7,Tryz.ntmps7
 go_wp2_with fail
 go_loopw [18] (fun i wr=>∃j:Nat,j<=n/\i=.int .i64 j/\(∀f∈fs.take j,smallF f)/\Below w.heap.size w wr) (fun i _=>n - (intOf i).toNat)
 case atStart=>exact ⟨0,Nat.zero_le _,rfl,by simp,hal.out⟩
 case round=>
   obtain ⟨j,hj,rfl,htk,hbel⟩:=hrel;replace htk:=Hd htk;by_cases hlt:j<n
   · obtain ⟨b,o,f,hf,rfl,d0,d1⟩:=hr.out.at hlt
     replace d0:=Aa hbel d0;replace d1:=Aa hbel d1;have hal2:=hbel.alloc hbel.size (.cells #[.string f.1,.string f.2] 53);replace hal2:=Hd hal2;replace hf:=Hd hf;by_cases e1:600<f.1.size
     · have e1' : (600:Int)<f.1.size:=by omega
       go_wp2;go_ret;exact Ds rfl hal2.out
     have e1' : ¬(600:Int)<f.1.size:=by omega
     by_cases e2:5000<f.2.size
     · have e2' : (5000:Int)<f.2.size:=by omega
       go_wp2;go_ret;exact Ds rfl hal2.out
     have e2' : ¬(5000:Int)<f.2.size:=by omega
     go_wp2
     go_roundw
     case rel=>exact ⟨j+1,by omega,by go_num,take_all htk.out hf.out ⟨by omega,by omega⟩,hal2.out⟩
     case measure=>simp [intOf];omega
   · have hjn:j=n:=by omega
     subst hjn;go_wp2;go_ret;exact ⟨false,rfl,fun _=>⟨by omega,by omega,take_whole htk.out hl.out⟩,hbel⟩
def fineF (f:Fld):Prop:=f.1.size<=512/\f.2.size<=4096
end Go.Proofs.YteoalcmhdoopnaaGreatDoor
