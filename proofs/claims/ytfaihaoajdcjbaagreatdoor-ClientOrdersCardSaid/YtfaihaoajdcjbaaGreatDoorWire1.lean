/- wire.number, wire.long, wire.Command: bytes behind other bytes. -/
import Derived.Test.YtfaihaoajdcjbaaGreatDoorNums
import Derived.Test.YtfaihaoajdcjbaaGreatDoorJ8
import Derived.Lib.ItoaLen
import Derived.Lib.ItoaNum
set_option linter.all false
namespace Go.Proofs.YtfaihaoajdcjbaaGreatDoor
open Go.RowKit Go.Joins
def Laid (B:Nat) (w:World):Prop:=∃W0:World,W0.heap.size<=B/\Nums W0/\Below W0.heap.size W0 w
theorem Laid.below {B B' : Nat} {w w' : World} (h:Laid B w) (hb:Below B' w w') (hB:B<=B'):Laid B w' :=
 let ⟨W0,h1,h2,h3⟩:=h;⟨W0,h1,h2,h3.trans (hb.mono (Nat.le_trans h1 hB))⟩
theorem Laid.nums {B:Nat} {w:World} (h:Laid B w):Nums w:=by
 obtain ⟨W0,h1,h2,h3⟩:=h;exact h2.below h3
def numB (m:UInt8) (n:Int):ByteArray:=⟨#[m]⟩++⟨(Lib.itoa n).toArray⟩++⟨#[13,10]⟩
theorem Ej (n:Int) (h0:-9223372036854775808<=n) (h1:n<=9223372036854775807):(⟨(Lib.itoa n).toArray⟩:ByteArray).size<=21:=by
 have:=Lib.itoa_length_le n h0 h1;show (Lib.itoa n).toArray.size<=21;simpa using this
set_option maxRecDepth 100000 in
set_option maxHeartbeats 1600000 in
theorem Fz {B:Nat} {w:World} {v:Value} {s:ByteArray} (m:UInt8) (n:Int) (h0:-9223372036854775808<=n) (h1:n<=9223372036854775807) (hL:Laid B w) (hR:Row B w v s) (hB:B<=w.heap.size) (hn:s.size<=1000000000000) :
   Calls Tryz.prog 73 #[v,.int .u8 (m.toNat:Int),.int .i64 n] w fun e w' => ∃v', e=.returned v' /\ Row B w' v' (s++numB m n)/\Below B w w' := by
 have hi:=Ej n h0 h1;have hn1:s.size+1<=140737488355328:=by omega
 replace hL:=Hd hL;replace hR:=Hd hR
 go_enter Tryz.func73,Tryz.ntmps73
 go_wp2_with (at_builtin;refine app_byte rfl rfl rfl hR.out rfl hn1 hB ?_)
 intro v1 w1 hR1 hb1;have hL1:=Hd (hL.out.below hb1 (Nat.le_refl _));have hB1:B<=w1.heap.size:=Nat.le_trans hB hb1.size;replace hR1:=Hd hR1;replace hb1:=Hd hb1;go_wp2_with fail
 refine (Dl n h0 h1 _ hL1.out.nums).mono ?_;rintro e w2 ⟨rfl,hb2⟩;have hb12:=hb1.out.trans (hb2.mono hB1);have hR2:=hR1.out.below hb2 (Nat.le_refl _);have hB2:B<=w2.heap.size:=Nat.le_trans hB1 hb2.size;have hnum:numB m n=⟨#[m]⟩++⟨(Lib.itoa n).toArray⟩++⟨#[13,10]⟩:=rfl;generalize (⟨(Lib.itoa n).toArray⟩:ByteArray)=T at *;have e1:(⟨#[m]⟩:ByteArray).size=1:=rfl;have hn2:(s++⟨#[m]⟩).size+T.size<=140737488355328:=by rw [ByteArray.size_append,e1];omega
 have hn3:(s++⟨#[m]⟩++T).size+(⟨#[13,10]⟩:ByteArray).size<=140737488355328:=by
   have e2:(⟨#[13,10]⟩:ByteArray).size=2:=rfl;rw [ByteArray.size_append,ByteArray.size_append,e1,e2];omega
 clear hb1 hb2 hL1 hR1 hL hR;replace hR2:=Hd hR2;replace hb12:=Hd hb12;go_wp2_with (at_builtin;refine D6 rfl rfl rfl hR2.out rfl hn2 hB2 ?_)
 intro v3 w3 hR3 hb3;have hb13:=Hd (hb12.out.trans hb3);have hB3:B<=w3.heap.size:=Nat.le_trans hB2 hb3.size;clear hR2 hb12 hb3;replace hR3:=Hd hR3;go_wp2_with (at_builtin;refine D6 rfl rfl rfl hR3.out rfl hn3 hB3 ?_)
 intro v4 w4 hR4 hb4;have hb14:=hb13.out.trans hb4;clear hR3 hb13 hb4;go_wp2_with fail
 go_ret;refine ⟨_,rfl,?_,hb14⟩;rw [hnum,<-ByteArray.append_assoc,<-ByteArray.append_assoc];exact hR4
theorem Ck (m:UInt8) (n:Int) (h0:-9223372036854775808<=n) (h1:n<=9223372036854775807):(numB m n).size<=24:=by
 have:=Ej n h0 h1;have e1:(⟨#[m]⟩:ByteArray).size=1:=rfl;have e2:(⟨#[13,10]⟩:ByteArray).size=2:=rfl;rw [numB,ByteArray.size_append,ByteArray.size_append];omega
def Ez (m:UInt8) (t:ByteArray):ByteArray:=numB m t.size++t++⟨#[13,10]⟩
set_option maxRecDepth 100000 in
set_option maxHeartbeats 1600000 in
theorem long_any {B:Nat} {w:World} {v:Value} {s:ByteArray} (m:UInt8) (t:ByteArray) (hL:Laid B w) (hR:Row B w v s) (hB:B<=w.heap.size) (hn:s.size<=1000000000000) (ht:t.size<=1000000000000) :
   Calls Tryz.prog 74 #[v,.int .u8 (m.toNat:Int),.string t] w fun e w' => ∃v', e=.returned v' /\ Row B w' v' (s++Ez m t)/\Below B w w' := by
 have hz:=Ck m t.size (by omega) (by omega);have hlong:Ez m t=numB m t.size++t++⟨#[13,10]⟩:=rfl;replace hL:=Hd hL;replace hR:=Hd hR
 go_enter Tryz.func74,Tryz.ntmps74
 go_wp2_with fail
 refine (Fz m t.size (by omega) (by omega) hL.out hR.out hB hn).mono ?_;rintro e w1 ⟨v1,rfl,hR1,hb1⟩;have hB1:B<=w1.heap.size:=Nat.le_trans hB hb1.size;generalize numB m t.size=T at *;have hn2:(s++T).size+t.size<=140737488355328:=by rw [ByteArray.size_append];omega
 have hn3:(s++T++t).size+(⟨#[13,10]⟩:ByteArray).size<=140737488355328:=by
   have e2:(⟨#[13,10]⟩:ByteArray).size=2:=rfl;rw [ByteArray.size_append,ByteArray.size_append,e2];omega
 clear hL hR;replace hR1:=Hd hR1;replace hb1:=Hd hb1;go_wp2_with (at_builtin;refine D6 rfl rfl rfl hR1.out rfl hn2 hB1 ?_)
 intro v3 w3 hR3 hb3;have hb13:=Hd (hb1.out.trans hb3);have hB3:B<=w3.heap.size:=Nat.le_trans hB1 hb3.size;clear hR1 hb1 hb3;replace hR3:=Hd hR3;go_wp2_with (at_builtin;refine D6 rfl rfl rfl hR3.out rfl hn3 hB3 ?_)
 intro v4 w4 hR4 hb4;have hb14:=hb13.out.trans hb4;clear hR3 hb13 hb4;go_wp2_with fail
 go_ret;refine ⟨_,rfl,?_,hb14⟩;rw [hlong,<-ByteArray.append_assoc,<-ByteArray.append_assoc];exact hR4
theorem longB_size (m:UInt8) (t:ByteArray) (ht:t.size<=1000000000000):(Ez m t).size<=t.size+26:=by
 have:=Ck m t.size (by omega) (by omega);have e2:(⟨#[13,10]⟩:ByteArray).size=2:=rfl;rw [Ez,ByteArray.size_append,ByteArray.size_append];omega
def Bt:List ByteArray->ByteArray
 | []=>⟨#[]⟩
 | t :: l=>Ez 36 t++Bt l
theorem longsB_snoc (l:List ByteArray) (t:ByteArray):Bt (l++[t])=Bt l++Ez 36 t:=by
 induction l with
 | nil=>
   show Ez 36 t++⟨#[]⟩=⟨#[]⟩++Ez 36 t;rw [D2,Ey]
 | cons x l ih=>rw [List.cons_append,Bt,ih,Bt,ByteArray.append_assoc]
def Ak (l:List ByteArray):ByteArray:=numB 42 l.length++Bt l
theorem Cb {K:Nat} (hK:K<=1000000):∀l:List ByteArray,(∀t∈l,t.size<=K)->(Bt l).size<=l.length * (K+26)
 | [],_=>by simp [Bt,ByteArray.size]
 | t :: l,h=>by
   have h1:=Cb hK l (fun x hx=>h x (List.mem_cons_of_mem _ hx));have h2:=h t (List.mem_cons_self ..);have h3:=longB_size 36 t (by omega);rw [Bt,ByteArray.size_append,List.length_cons,Nat.add_mul];omega
set_option maxRecDepth 100000 in
set_option maxHeartbeats 3200000 in
theorem command_any {w:World} {a:Option Addr} {n ca:Nat} {l:List ByteArray} (hx:Reads w 1 (.slice a n ca) n (l.map Value.string)) (hl:∀t∈l,t.size<=1000000) (hn:n<=1000) (hL:Laid w.heap.size w) :
   Calls Tryz.prog 53 #[.slice a n ca] w fun e w' => ∃v', e=.returned v' /\ Row w.heap.size w' v' (Ak l)/\Below w.heap.size w w' := by
 obtain ⟨B,hBw⟩:∃B,B=w.heap.size:=⟨_,rfl⟩;rw [<-hBw] at hL ⊢;have hBle:B<=w.heap.size:=by omega
 have hBge:w.heap.size<=B:=by omega
 clear hBw;have lx:=hx.len.2;simp only [List.length_map,Nat.mul_one] at lx;have hz:=Ck 42 n (by omega) (by omega);have hcom:Ak l=numB 42 n++Bt l:=by unfold Ak;rw [lx]
 have hR:=Hd (Row.nil B w);have hsz:=Hd (Cb (K:=1000000) (by omega) );replace hcom:=Hd hcom;replace hl:=Hd hl;replace hL:=Hd hL;replace hx:=Hd hx;replace lx:=Hd lx
 go_enter Tryz.func53,Tryz.ntmps53
 go_wp2_with fail
 refine (Fz 42 n (by omega) (by omega) hL.out hR.out hBle (by decide)).mono ?_;rintro e w1 ⟨v1,rfl,hR1,hb1⟩;have hBz:B<=w1.heap.size:=Nat.le_trans hBle hb1.size;have e0:(⟨#[]⟩:ByteArray)++numB 42 n=numB 42 n:=Ey _;rw [e0] at hR1;generalize numB 42 n=T at *;replace hR1:=Hd hR1;replace hb1:=Hd hb1;clear hR e0;go_wp2_with fail
 go_loopw [3,11] (fun v i wr=>∃j:Nat,j<=n/\i=.int .i64 j/\Row B wr v (T++Bt (l.take j))/\Below B w wr) (fun _ i _=>n - (intOf i).toNat)
 case atStart=>exact ⟨0,Nat.zero_le _,rfl,by rw [List.take_zero,Bt,D2];exact hR1.out,hb1.out⟩
 case round=>
   obtain ⟨j,hj,rfl,hR2,hb2⟩:=hrel;clear hR1 hb1;have hB2:B<=wr.heap.size:=by have:=hb2.size;omega
   by_cases hlt:j<n
   · have hlti:(j:Int)<n:=by omega
     have hjl:j<l.length:=by have:=lx.out;omega
     obtain ⟨b,o,he,hc⟩:=(hx.out.below (hb2.mono (by omega))).at (j:=j) (by simpa using hjl);cases he
     have hc0:=hc j (.string l[j]) (by rw [List.getElem?_map,List.getElem?_eq_getElem hjl];rfl);obtain ⟨t,ht⟩:∃t,t=l[j]:=⟨_,rfl⟩;rw [<-ht] at hc0;have hts:l.take (j+1)=l.take j++[t]:=by rw [ht];exact List.take_succ_eq_append_getElem hjl
     have hsz2:(T++Bt (l.take j)).size<=1000000000000:=by
       have h1:=hsz.out (l.take j) (fun x hx=>hl.out x (List.mem_of_mem_take hx));have h2:(l.take j).length * (1000000+26)<=1000 * (1000000+26):=Nat.mul_le_mul_right _ (by rw [List.length_take];omega);rw [ByteArray.size_append];omega
     have ht1:t.size<=1000000:=hl.out t (by rw [ht];exact List.getElem_mem hjl);have hL2:=Hd (hL.out.below hb2 (Nat.le_refl _));clear hc;replace hR2:=Hd hR2;replace hts:=Hd hts;replace hb2:=Hd hb2;replace ht:=Hd ht;go_wp2_with fail
     refine (long_any 36 t hL2.out hR2.out hB2 hsz2 (by omega)).mono ?_;rintro e w3 ⟨v3,rfl,hR3,hb3⟩;have hb4:=Hd (hb2.out.trans hb3);clear hR2 hb2 hb3;replace hR3:=Hd hR3;go_wp2_with fail
     go_roundw
     case rel=>
       refine ⟨j+1,by omega,by go_num,?_,hb4.out⟩;rw [hts.out,longsB_snoc,<-ByteArray.append_assoc];exact hR3.out
     case measure=>simp [intOf];omega
   · have hlti:¬(j:Int)<n:=by omega
     have hj9:l.take j=l:=List.take_of_length_le (by have:=lx.out;omega);rw [hj9,<-hcom.out] at hR2;replace hR2:=Hd hR2;replace hb2:=Hd hb2;go_wp2_with fail
     go_ret;exact ⟨u3,rfl,hR2.out,hb2.out⟩
end Go.Proofs.YtfaihaoajdcjbaaGreatDoor
