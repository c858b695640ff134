/- wire.number, wire.long, wire.Command. -/
import Derived.Test.YtagkgfniihiinaaGreatDoorNums
import Derived.Test.YtagkgfniihiinaaGreatDoorJ22
import Derived.Lib.ItoaLen
set_option linter.all false
set_option maxHeartbeats 1600000
set_option maxRecDepth 100000
namespace Go.Proofs.YtagkgfniihiinaaGreatDoor
open Go.RowKit Go.Joins
def Laid (B:Nat) (w:World):Prop:=∃W0:World,W0.heap.size<=B/\Nums W0/\Below W0.heap.size W0 w
theorem Laid.below {B B' : Nat} {w w' : World} (h:Laid B w) (hb:Below B' w w') (hB:B<=B'):Laid B w' :=
 let ⟨W0,h1,h2,h3⟩:=h;⟨W0,h1,h2,h3.trans (hb.mono (Nat.le_trans h1 hB))⟩
theorem Laid.of {w:World} (h:Nums w):Laid w.heap.size w:=⟨w,Nat.le_refl _,h,Below.refl _ _⟩
theorem Laid.mono {B B' : Nat} {w:World} (h:Laid B w) (hB:B<=B'):Laid B' w:=let ⟨W0,h1,h2,h3⟩:=h;⟨W0,Nat.le_trans h1 hB,h2,h3⟩
theorem Laid.nums {B:Nat} {w:World} (h:Laid B w):Nums w:=by
 obtain ⟨W0,h1,h2,h3⟩:=h;exact h2.below h3
def numB (m:UInt8) (n:Int):ByteArray:=⟨#[m]⟩++⟨(Lib.itoa n).toArray⟩++⟨#[13,10]⟩
theorem itoa_size (n:Int) (h0:-9223372036854775808<=n) (h1:n<=9223372036854775807):(⟨(Lib.itoa n).toArray⟩:ByteArray).size<=21:=by
 have:=Lib.itoa_length_le n h0 h1;show (Lib.itoa n).toArray.size<=21;simpa using this
theorem numB_size (m:UInt8) (n:Int) (h0:-9223372036854775808<=n) (h1:n<=9223372036854775807):(numB m n).size<=24:=by
 have:=itoa_size n h0 h1;have e1:(⟨#[m]⟩:ByteArray).size=1:=rfl;have e2:(⟨#[13,10]⟩:ByteArray).size=2:=rfl;rw [numB,ByteArray.size_append,ByteArray.size_append];omega
def longB (m:UInt8) (t:ByteArray):ByteArray:=numB m t.size++t++⟨#[13,10]⟩
def NB (w w' : World):Prop:=∀(k:Nat) (cur:Array Value) (t:TypeId),w.heap[k]?=some (.cells cur t)->t≠5->w'.heap[k]?=w.heap[k]?
theorem NB.trans {a b c:World} (h:NB a b) (g:NB b c):NB a c:=fun k cur t hk ht=>by
 have h1:=h k cur t hk ht;exact (g k cur t (h1.trans hk) ht).trans h1
theorem NB.of_below {w w' : World} (h:Below w.heap.size w w'):NB w w' := fun k cur t hk _=>h.block k (by
 rcases Nat.lt_or_ge k w.heap.size with h | h
 ·exact h
 ·rw [Array.getElem?_eq_none h] at hk;cases hk)
theorem NB.cell {w w' : World} (h:NB w w') {b o:Nat} {s:Option Nat} {cur:Array Value} {t:TypeId} (hk:w.heap[b]?=some (.cells cur t)) (ht:t≠5):w'.cell? ⟨b,o,s⟩=w.cell? ⟨b,o,s⟩:=
 World.cell?_of_block (w:=w) (h b cur t hk ht)
theorem NB.row {B:Nat} {w w' : World} {v:Value} {s:ByteArray} (hR:Row B w v s) (hf:Fr (fun k=>v.ownBlock=some k) w w'):NB w w' := fun k cur t hk ht=>by
 have hlt:k<w.heap.size:=by
  rcases Nat.lt_or_ge k w.heap.size with h | h
  ·exact h
  ·rw [Array.getElem?_eq_none h] at hk;cases hk
 refine hf.block k hlt fun e=>?_;rcases hR.own.2 with ⟨h,_⟩ | ⟨g,cap,c2,e1,e2,e3,e4⟩
 ·rw [h] at e;cases e
 ·rw [e1] at e
  have:g=k:=by simpa [Value.ownBlock] using e
  subst this;rw [hk] at e3;simp at e3;exact ht e3.2
theorem Ev {ops:Array Oper} {rest:List Oper} {o:Oper} {a:Act} {Q:Exit->Act->World->Prop} {sl x:Operand} {B:Nat} {w:World} {v:Value} {s t:ByteArray} (hgd:o.guard=none)
  (ho:o.op=.call { callee:=.builtin .append,args:=#[sl,x],argTypes:=#[27,9] }) (hs:a.eval sl=v) (hR:Row B w v s) (hx:a.eval x=.string t) (hn:s.size+t.size<=140737488355328) (hB:B<=w.heap.size)
  (h:∀v' w', Row B w' v' (s++t)->Below B w w' -> NB w w' -> wpList Tryz.prog ops Q rest (a.put o.dst v') w'):wpList Tryz.prog ops Q (o :: rest) a w:=by
 obtain ⟨i,h1,h2,h3,h4⟩:=info_byte;refine Lib.wpList_append_own_string w hgd sl x 27 9 ho B 5 i Tryz.underlying27 Tryz.underlying9 h1 h2 h3 h4 v s.size (Lib.strCells s) hs hR.own t hx (by unfold maxLen;omega) hn hB ?_;intro v' w' g1 g2 _;refine h v' w' ⟨?_⟩ (Below.of_append (Below.refl B w) (Fr.of_grown g2) (fun k hk=>(Au hR.own k hk).1) hB) (NB.row hR (Fr.of_grown g2));rw [ByteArray.size_append,Ej];exact g1
theorem app_byteN {ops:Array Oper} {rest:List Oper} {o:Oper} {a:Act} {Q:Exit->Act->World->Prop} {sl x:Operand} {B:Nat} {w:World} {v:Value} {s:ByteArray} {b:UInt8} (hgd:o.guard=none)
  (ho:o.op=.call { callee:=.builtin .append,args:=#[sl,x],argTypes:=#[27,27] }) (hs:a.eval sl=v) (hR:Row B w v s) (hx:a.eval x=.slice (some ⟨w.heap.size,0,none⟩) 1 1) (hn:s.size+1<=140737488355328) (hB:B<=w.heap.size)
  (h:∀v' w', Row B w' v' (s++⟨#[b]⟩)->Below B w w' -> NB w w' -> wpList Tryz.prog ops Q rest (a.put o.dst v') w'):wpList Tryz.prog ops Q (o :: rest) a (w.alloc (.cells #[.int .u8 (b.toNat:Int)] 5)):=by
 refine append_room hgd ho eByte1 hs hR.own hx rfl rfl hn (by omega) hB ?_;intro v' w' g1 g2;refine h v' w' ⟨?_⟩ (Below.of_append (Below.refl B w) g2 (fun k hk=>(Au hR.own k hk).1) hB) (NB.row hR g2);rw [ByteArray.size_append,Ej];exact g1
theorem numberN_any {B:Nat} {w:World} {v:Value} {s:ByteArray} (m:UInt8) (n:Int) (h0:-9223372036854775808<=n) (h1:n<=9223372036854775807) (hL:Laid B w) (hR:Row B w v s) (hB:B<=w.heap.size) (hn:s.size<=1000000000000) :
  Calls Tryz.prog 40 #[v,.int .u8 (m.toNat:Int),.int .i64 n] w fun e w' => ∃v', e=.returned v' /\ Row B w' v' (s++numB m n)/\Below B w w' /\ NB w w' := by
 have hi:=itoa_size n h0 h1;have r:s.size+1<=140737488355328:=by omega
 replace hL:=Hd hL;replace hR:=Hd hR
 go_enter Tryz.func40,Tryz.ntmps40
 go_wp2_with (at_builtin;refine app_byteN rfl rfl rfl hR.out rfl r hB ?_)
 intro v1 w1 f b n1;replace n1:=Hd n1;have j:=Hd (hL.out.below b (Nat.le_refl _));have k:B<=w1.heap.size:=Nat.le_trans hB b.size;replace f:=Hd f;replace b:=Hd b;go_wp2_with fail
 refine (wtext_any n h0 h1 _ j.out.nums).mono ?_;rintro e w2 ⟨rfl,c⟩;have n2:=Hd (n1.out.trans (NB.of_below c));have a:=b.out.trans (c.mono k);have d:=f.out.below c (Nat.le_refl _);have l:B<=w2.heap.size:=Nat.le_trans k c.size;have o:numB m n=⟨#[m]⟩++⟨(Lib.itoa n).toArray⟩++⟨#[13,10]⟩:=rfl;generalize (⟨(Lib.itoa n).toArray⟩:ByteArray)=T at *;have e1:(⟨#[m]⟩:ByteArray).size=1:=rfl;have t:(s++⟨#[m]⟩).size+T.size<=140737488355328:=by rw [ByteArray.size_append,e1];omega
 have u:(s++⟨#[m]⟩++T).size+(⟨#[13,10]⟩:ByteArray).size<=140737488355328:=by
  have e2:(⟨#[13,10]⟩:ByteArray).size=2:=rfl;rw [ByteArray.size_append,ByteArray.size_append,e1,e2];omega
 clear b c j f hL hR;replace d:=Hd d;replace a:=Hd a;go_wp2_with (at_builtin;refine Ev rfl rfl rfl d.out rfl t l ?_)
 intro v3 w3 g i n3;replace n3:=Hd (n2.out.trans n3);have h:=Hd (a.out.trans i);have y:B<=w3.heap.size:=Nat.le_trans l i.size;clear d a i;replace g:=Hd g;go_wp2_with (at_builtin;refine Ev rfl rfl rfl g.out rfl u y ?_)
 intro v4 w4 z q n4;replace n4:=Hd (n3.out.trans n4);have p:=h.out.trans q;clear g h q;go_wp2_with fail
 go_ret;refine ⟨_,rfl,?_,p,n4.out⟩;rw [o,<-ByteArray.append_assoc,<-ByteArray.append_assoc];exact z
theorem longN_any {B:Nat} {w:World} {v:Value} {s:ByteArray} (m:UInt8) (t:ByteArray) (hL:Laid B w) (hR:Row B w v s) (hB:B<=w.heap.size) (hn:s.size<=1000000000000) (ht:t.size<=1000000000000) :
  Calls Tryz.prog 41 #[v,.int .u8 (m.toNat:Int),.string t] w fun e w' => ∃v', e=.returned v' /\ Row B w' v' (s++longB m t)/\Below B w w' /\ NB w w' := by
 have hz:=numB_size m t.size (by omega) (by omega);have f:longB m t=numB m t.size++t++⟨#[13,10]⟩:=rfl;replace hL:=Hd hL;replace hR:=Hd hR
 go_enter Tryz.func41,Tryz.ntmps41
 go_wp2_with fail
 refine (numberN_any m t.size (by omega) (by omega) hL.out hR.out hB hn).mono ?_;rintro e w1 ⟨v1,rfl,b,a,n1⟩;replace n1:=Hd n1;have h:B<=w1.heap.size:=Nat.le_trans hB a.size;generalize numB m t.size=T at *;have k:(s++T).size+t.size<=140737488355328:=by rw [ByteArray.size_append];omega
 have l:(s++T++t).size+(⟨#[13,10]⟩:ByteArray).size<=140737488355328:=by
  have e2:(⟨#[13,10]⟩:ByteArray).size=2:=rfl;rw [ByteArray.size_append,ByteArray.size_append,e2];omega
 clear hL hR;replace b:=Hd b;replace a:=Hd a;go_wp2_with (at_builtin;refine Ev rfl rfl rfl b.out rfl k h ?_)
 intro v3 w3 c g n3;replace n3:=Hd (n1.out.trans n3);have d:=Hd (a.out.trans g);have n:B<=w3.heap.size:=Nat.le_trans h g.size;clear b a g;replace c:=Hd c;go_wp2_with (at_builtin;refine Ev rfl rfl rfl c.out rfl l n ?_)
 intro v4 w4 o j n4;replace n4:=Hd (n3.out.trans n4);have i:=d.out.trans j;clear c d j;go_wp2_with fail
 go_ret;refine ⟨_,rfl,?_,i,n4.out⟩;rw [f,<-ByteArray.append_assoc,<-ByteArray.append_assoc];exact o
