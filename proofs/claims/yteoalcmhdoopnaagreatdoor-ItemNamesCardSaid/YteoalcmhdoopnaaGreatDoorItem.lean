/- Items in memory: their fields' cells; what is too great; a field that can be; two names. -/
import Derived.Test.YteoalcmhdoopnaaGreatDoorIt
import Derived.Test.YteoalcmhdoopnaaGreatDoorWhole
import Derived.Test.YteoalcmhdoopnaaGreatDoorQuiet
import Derived.Laws.StructEq
namespace Go.Proofs.YteoalcmhdoopnaaGreatDoor
open Go.RowKit
def flds (fs:List Fld):List Value:=fs.flatMap fcells
theorem Ao:flds []=[]:=rfl
theorem Ad (f:Fld) (fs:List Fld):flds (f :: fs)=.string f.1 :: .string f.2 :: flds fs:=rfl
theorem Ah (a b:List Fld):flds (a++b)=flds a++flds b:=by unfold flds;rw [List.flatMap_append]
theorem Ac:∀(fs:List Fld),(flds fs).length=fs.length * 2
 | []=>rfl
 | f :: fs=>by rw [Ad,List.length_cons,List.length_cons,Ac fs,List.length_cons];omega
theorem flds_get:∀{fs:List Fld} {j:Nat} {f:Fld},fs[j]?=some f->(flds fs)[j * 2]?=some (.string f.1)/\(flds fs)[j * 2+1]?=some (.string f.2)
 | [],j,f,h=>by simp at h
 | g :: fs,0,f,h=>by simp at h;subst h;exact ⟨rfl,rfl⟩
 | g :: fs,j+1,f,h=>by
   rw [Ad];have:=flds_get (fs:=fs) (j:=j) (by simpa using h);rw [show (j+1) * 2=j * 2+1+1 by omega];simpa using this
def RF (w:World) (a:Option Addr) (n cap:Nat) (fs:List Fld):Prop:=Reads w 2 (.slice a n cap) n (flds fs)
theorem RF.len {w:World} {a:Option Addr} {n cap:Nat} {fs:List Fld} (h:RF w a n cap fs):fs.length=n:=by
 have:=(Reads.len h).2;rw [Ac] at this;omega
theorem RF.at {w:World} {a:Option Addr} {n cap:Nat} {fs:List Fld} (h:RF w a n cap fs) {j:Nat} (hj:j<n) :
   ∃(b o:Nat) (f:Fld),fs[j]?=some f/\a=some ⟨b,o,none⟩/\w.cell? ⟨b,o+j * 2,none⟩=some (.string f.1)/\w.cell? ⟨b,o+j * 2+1,none⟩=some (.string f.2):=by
 have hl:=h.len
 have hj' : j<fs.length:=by omega
 have hf:fs[j]?=some fs[j]:=List.getElem?_eq_getElem hj'
 obtain ⟨h1,h2⟩:=flds_get hf
 obtain ⟨b,o,ha,hc⟩:=Reads.at h (j:=j * 2) (by rw [Ac];omega)
 exact ⟨b,o,fs[j],hf,ha,hc _ _ h1,hc _ _ h2⟩
theorem RF.below {w w' : World} {a:Option Addr} {n cap:Nat} {fs:List Fld} (h:RF w a n cap fs) (hb:Below w.heap.size w w'):RF w' a n cap fs:=Reads.below h hb
theorem Aa {w w' : World} (hb:Below w.heap.size w w') {b q:Nat} {u:Value} (h:w.cell? ⟨b,q,none⟩=some u):w'.cell? ⟨b,q,none⟩=some u:=by
 rw [hb.cell (by exact World.block_lt_of_cell? _ _ h)];exact h
def fineF (f:Fld):Prop:=f.1.size<=512/\f.2.size<=4096
theorem field_q (f:Fld) (q:Bool) (hq:q=true ↔ fineF f) (w:World):Calls Tryz.prog 44 #[.agg #[.string f.1,.string f.2]] w fun e w' => e=.returned (.bool q)/\Below w.heap.size w w' := by
 have hal:=(Below.refl w.heap.size w).alloc (Nat.le_refl _) (.cells #[.string f.1,.string f.2] 53);replace hal:=Hd hal;unfold fineF at hq;by_cases c1:f.1.size<=512
 · have c1' : (f.1.size:Int)<=512:=by omega
   by_cases c2:f.2.size<=4096
   · have c2' : (f.2.size:Int)<=4096:=by omega
     obtain rfl:q=true:=hq.2 ⟨c1,c2⟩;clear hq
     go_enter Tryz.func44,Tryz.ntmps44
     go_wp2;go_ret;exact ⟨rfl,hal.out⟩
   · have c2' : ¬(f.2.size:Int)<=4096:=by omega
     obtain rfl:q=false:=by cases q with | false=>rfl | true=>exact absurd (hq.1 rfl).2 c2
     clear hq
     go_enter Tryz.func44,Tryz.ntmps44
     go_wp2;go_ret;exact ⟨rfl,hal.out⟩
 · have c1' : ¬(f.1.size:Int)<=512:=by omega
   obtain rfl:q=false:=by cases q with | false=>rfl | true=>exact absurd (hq.1 rfl).1 c1
   clear hq
   go_enter Tryz.func44,Tryz.ntmps44
   go_wp2;go_ret;exact ⟨rfl,hal.out⟩
theorem Bj (f g:Fld) (w:World):Calls Tryz.prog 60 #[.agg #[.string f.1,.string f.2],.agg #[.string g.1,.string g.2]] w fun e w' => e=.returned (.int .i64 (cmpB f.1 g.1))/\Below w.heap.size w w' := by
 have hal:=((Below.refl w.heap.size w).alloc (Nat.le_refl _) (.cells #[.string f.1,.string f.2] 53)).alloc (by simp) (.cells #[.string g.1,.string g.2] 53);replace hal:=Hd hal
 go_enter Tryz.func60,Tryz.ntmps60
 go_wp2_with (go_at_call 77;refine (Tryz.strings_Compare _ _ _).mono ?_;rintro e w' ⟨rfl,rfl⟩)
 go_ret;exact ⟨rfl,hal.out⟩
end Go.Proofs.YteoalcmhdoopnaaGreatDoor
