/- wire.number, wire.long, wire.Command: bytes behind other bytes. -/
import Derived.Test.YtagkgfniihiinaaGreatDoorNums
import Derived.Test.YtagkgfniihiinaaGreatDoorJ24
import Derived.Lib.ItoaLen
import Derived.Lib.ItoaNum
set_option linter.all false
namespace Go.Proofs.YtagkgfniihiinaaGreatDoor
open Go.RowKit Go.Joins
def Laid (B:Nat) (w:World):Prop:=∃W0:World,W0.heap.size<=B/\Nums W0/\Below W0.heap.size W0 w
theorem Laid.below {B B' : Nat} {w w' : World} (h:Laid B w) (hb:Below B' w w') (hB:B<=B'):Laid B w' :=
 let ⟨W0,h1,h2,h3⟩:=h;⟨W0,h1,h2,h3.trans (hb.mono (Nat.le_trans h1 hB))⟩
theorem Laid.of {w:World} (h:Nums w):Laid w.heap.size w:=⟨w,Nat.le_refl _,h,Below.refl _ _⟩
theorem Laid.mono {B B' : Nat} {w:World} (h:Laid B w) (hB:B<=B'):Laid B' w:=let ⟨W0,h1,h2,h3⟩:=h;⟨W0,Nat.le_trans h1 hB,h2,h3⟩
theorem Laid.nums {B:Nat} {w:World} (h:Laid B w):Nums w:=by
 obtain ⟨W0,h1,h2,h3⟩:=h;exact h2.below h3
def numB (m:UInt8) (n:Int):ByteArray:=⟨#[m]⟩++⟨(Lib.itoa n).toArray⟩++⟨#[13,10]⟩
theorem itoa_size (n:Int) (h0:-9223372036854775808<=n) (h1:n<=9223372036854775807):(⟨(Lib.itoa n).toArray⟩:ByteArray).size<=21:=by
 have:=Lib.itoa_length_le n h0 h1;show (Lib.itoa n).toArray.size<=21;simpa using this
theorem numB_size (m:UInt8) (n:Int) (h0:-9223372036854775808<=n) (h1:n<=9223372036854775807):(numB m n).size<=24:=by
 have:=itoa_size n h0 h1;have e1:(⟨#[m]⟩:ByteArray).size=1:=rfl;have e2:(⟨#[13,10]⟩:ByteArray).size=2:=rfl;rw [numB,ByteArray.size_append,ByteArray.size_append];omega
def longB (m:UInt8) (t:ByteArray):ByteArray:=numB m t.size++t++⟨#[13,10]⟩
def NB (w w' : World):Prop:=∀(k:Nat) (cur:Array Value) (t:TypeId),w.heap[k]?=some (.cells cur t)->t≠5->w'.heap[k]?=w.heap[k]?
theorem NB.trans {a b c:World} (h:NB a b) (g:NB b c):NB a c:=fun k cur t hk ht=>by
 have h1:=h k cur t hk ht;exact (g k cur t (h1.trans hk) ht).trans h1
theorem NB.of_below {w w' : World} (h:Below w.heap.size w w'):NB w w' := fun k cur t hk _=>h.block k (by
 rcases Nat.lt_or_ge k w.heap.size with h | h
 · exact h
 · rw [Array.getElem?_eq_none h] at hk;cases hk)
theorem NB.cell {w w' : World} (h:NB w w') {b o:Nat} {s:Option Nat} {cur:Array Value} {t:TypeId} (hk:w.heap[b]?=some (.cells cur t)) (ht:t≠5):w'.cell? ⟨b,o,s⟩=w.cell? ⟨b,o,s⟩:=
 World.cell?_of_block (w:=w) (h b cur t hk ht)
theorem NB.row {B:Nat} {w w' : World} {v:Value} {s:ByteArray} (hR:Row B w v s) (hf:Fr (fun k=>v.ownBlock=some k) w w'):NB w w' := fun k cur t hk ht=>by
 have hlt:k<w.heap.size:=by
   rcases Nat.lt_or_ge k w.heap.size with h | h
   · exact h
   · rw [Array.getElem?_eq_none h] at hk;cases hk
 refine hf.block k hlt fun e=>?_;rcases hR.own.2 with ⟨h,_⟩ | ⟨g,cap,c2,e1,e2,e3,e4⟩
 · rw [h] at e;cases e
 · rw [e1] at e
   have:g=k:=by simpa [Value.ownBlock] using e
   subst this;rw [hk] at e3;simp at e3;exact ht e3.2
theorem En {ops:Array Oper} {rest:List Oper} {o:Oper} {a:Act} {Q:Exit->Act->World->Prop} {sl x:Operand} {B:Nat} {w:World} {v:Value} {s t:ByteArray} (hgd:o.guard=none)
   (ho:o.op=.call { callee:=.builtin .append,args:=#[sl,x],argTypes:=#[27,9] }) (hs:a.eval sl=v) (hR:Row B w v s) (hx:a.eval x=.string t) (hn:s.size+t.size<=140737488355328) (hB:B<=w.heap.size)
   (h:∀v' w', Row B w' v' (s++t)->Below B w w' -> NB w w' -> wpList Tryz.prog ops Q rest (a.put o.dst v') w'):wpList Tryz.prog ops Q (o :: rest) a w:=by
 obtain ⟨i,h1,h2,h3,h4⟩:=info_byte
 refine Lib.wpList_append_own_string w hgd sl x 27 9 ho B 5 i Tryz.underlying27 Tryz.underlying9 h1 h2 h3 h4 v s.size (Lib.strCells s) hs hR.own t hx (by unfold maxLen;omega) hn hB ?_
 intro v' w' g1 g2 _
 refine h v' w' ⟨?_⟩ (Below.of_append (Below.refl B w) (Fr.of_grown g2) (fun k hk=>(A1 hR.own k hk).1) hB) (NB.row hR (Fr.of_grown g2))
 rw [ByteArray.size_append,D9]
 exact g1
theorem app_byteN {ops:Array Oper} {rest:List Oper} {o:Oper} {a:Act} {Q:Exit->Act->World->Prop} {sl x:Operand} {B:Nat} {w:World} {v:Value} {s:ByteArray} {b:UInt8} (hgd:o.guard=none)
   (ho:o.op=.call { callee:=.builtin .append,args:=#[sl,x],argTypes:=#[27,27] }) (hs:a.eval sl=v) (hR:Row B w v s) (hx:a.eval x=.slice (some ⟨w.heap.size,0,none⟩) 1 1) (hn:s.size+1<=140737488355328) (hB:B<=w.heap.size)
   (h:∀v' w', Row B w' v' (s++⟨#[b]⟩)->Below B w w' -> NB w w' -> wpList Tryz.prog ops Q rest (a.put o.dst v') w'):wpList Tryz.prog ops Q (o :: rest) a (w.alloc (.cells #[.int .u8 (b.toNat:Int)] 5)):=by
 refine append_room hgd ho eByte1 hs hR.own hx rfl rfl hn (by omega) hB ?_
 intro v' w' g1 g2
 refine h v' w' ⟨?_⟩ (Below.of_append (Below.refl B w) g2 (fun k hk=>(A1 hR.own k hk).1) hB) (NB.row hR g2)
 rw [ByteArray.size_append,D9]
 exact g1
set_option maxRecDepth 100000 in
set_option maxHeartbeats 1600000 in
theorem F1 {B:Nat} {w:World} {v:Value} {s:ByteArray} (m:UInt8) (n:Int) (h0:-9223372036854775808<=n) (h1:n<=9223372036854775807) (hL:Laid B w) (hR:Row B w v s) (hB:B<=w.heap.size) (hn:s.size<=1000000000000) :
   Calls Tryz.prog 40 #[v,.int .u8 (m.toNat:Int),.int .i64 n] w fun e w' => ∃v', e=.returned v' /\ Row B w' v' (s++numB m n)/\Below B w w' /\ NB w w' := by
 have hi:=itoa_size n h0 h1
 have hn1:s.size+1<=140737488355328:=by omega
 replace hL:=Hd hL
 replace hR:=Hd hR
 go_enter Tryz.func40,Tryz.ntmps40
 go_wp2_with (at_builtin;refine app_byteN rfl rfl rfl hR.out rfl hn1 hB ?_)
 intro v1 w1 hR1 hb1 n1
 replace n1:=Hd n1
 have hL1:=hL.out.below hb1 (Nat.le_refl _)
 have hB1:B<=w1.heap.size:=Nat.le_trans hB hb1.size
 replace hL1:=Hd hL1
 replace hR1:=Hd hR1
 replace hb1:=Hd hb1
 go_wp2_with fail
 refine (wtext_any n h0 h1 _ hL1.out.nums).mono ?_
 rintro e w2 ⟨rfl,hb2⟩
 have n2:=n1.out.trans (NB.of_below hb2)
 replace n2:=Hd n2
 have hb12:=hb1.out.trans (hb2.mono hB1)
 have hR2:=hR1.out.below hb2 (Nat.le_refl _)
 have hB2:B<=w2.heap.size:=Nat.le_trans hB1 hb2.size
 have hnum:numB m n=⟨#[m]⟩++⟨(Lib.itoa n).toArray⟩++⟨#[13,10]⟩:=rfl
 generalize (⟨(Lib.itoa n).toArray⟩:ByteArray)=T at *
 have e1:(⟨#[m]⟩:ByteArray).size=1:=rfl
 have hn2:(s++⟨#[m]⟩).size+T.size<=140737488355328:=by rw [ByteArray.size_append,e1];omega
 have hn3:(s++⟨#[m]⟩++T).size+(⟨#[13,10]⟩:ByteArray).size<=140737488355328:=by
   have e2:(⟨#[13,10]⟩:ByteArray).size=2:=rfl;rw [ByteArray.size_append,ByteArray.size_append,e1,e2];omega
 clear hb1 hb2 hL1 hR1 hL hR
 replace hR2:=Hd hR2
 replace hb12:=Hd hb12
 go_wp2_with (at_builtin;refine En rfl rfl rfl hR2.out rfl hn2 hB2 ?_)
 intro v3 w3 hR3 hb3 n3
 replace n3:=Hd (n2.out.trans n3)
 have hb13:=hb12.out.trans hb3
 have hB3:B<=w3.heap.size:=Nat.le_trans hB2 hb3.size
 clear hR2 hb12 hb3
 replace hR3:=Hd hR3
 replace hb13:=Hd hb13
 go_wp2_with (at_builtin;refine En rfl rfl rfl hR3.out rfl hn3 hB3 ?_)
 intro v4 w4 hR4 hb4 n4
 replace n4:=Hd (n3.out.trans n4)
 have hb14:=hb13.out.trans hb4
 clear hR3 hb13 hb4
 go_wp2_with fail
 go_ret
 refine ⟨_,rfl,?_,hb14,n4.out⟩
 rw [hnum,<-ByteArray.append_assoc,<-ByteArray.append_assoc]
 exact hR4
set_option maxRecDepth 100000 in
set_option maxHeartbeats 1600000 in
theorem longN_any {B:Nat} {w:World} {v:Value} {s:ByteArray} (m:UInt8) (t:ByteArray) (hL:Laid B w) (hR:Row B w v s) (hB:B<=w.heap.size) (hn:s.size<=1000000000000) (ht:t.size<=1000000000000) :
   Calls Tryz.prog 41 #[v,.int .u8 (m.toNat:Int),.string t] w fun e w' => ∃v', e=.returned v' /\ Row B w' v' (s++longB m t)/\Below B w w' /\ NB w w' := by
 have hz:=numB_size m t.size (by omega) (by omega)
 have hlong:longB m t=numB m t.size++t++⟨#[13,10]⟩:=rfl
 replace hL:=Hd hL
 replace hR:=Hd hR
 go_enter Tryz.func41,Tryz.ntmps41
 go_wp2_with fail
 refine (F1 m t.size (by omega) (by omega) hL.out hR.out hB hn).mono ?_
 rintro e w1 ⟨v1,rfl,hR1,hb1,n1⟩
 replace n1:=Hd n1
 have hB1:B<=w1.heap.size:=Nat.le_trans hB hb1.size
 generalize numB m t.size=T at *
 have hn2:(s++T).size+t.size<=140737488355328:=by rw [ByteArray.size_append];omega
 have hn3:(s++T++t).size+(⟨#[13,10]⟩:ByteArray).size<=140737488355328:=by
   have e2:(⟨#[13,10]⟩:ByteArray).size=2:=rfl;rw [ByteArray.size_append,ByteArray.size_append,e2];omega
 clear hL hR
 replace hR1:=Hd hR1
 replace hb1:=Hd hb1
 go_wp2_with (at_builtin;refine En rfl rfl rfl hR1.out rfl hn2 hB1 ?_)
 intro v3 w3 hR3 hb3 n3
 replace n3:=Hd (n1.out.trans n3)
 have hb13:=hb1.out.trans hb3
 have hB3:B<=w3.heap.size:=Nat.le_trans hB1 hb3.size
 clear hR1 hb1 hb3
 replace hR3:=Hd hR3
 replace hb13:=Hd hb13
 go_wp2_with (at_builtin;refine En rfl rfl rfl hR3.out rfl hn3 hB3 ?_)
 intro v4 w4 hR4 hb4 n4
 replace n4:=Hd (n3.out.trans n4)
 have hb14:=hb13.out.trans hb4
 clear hR3 hb13 hb4
 go_wp2_with fail
 go_ret
 refine ⟨_,rfl,?_,hb14,n4.out⟩
 rw [hlong,<-ByteArray.append_assoc,<-ByteArray.append_assoc]
 exact hR4
end Go.Proofs.YtagkgfniihiinaaGreatDoor
