/- Values as bytes in the newer protocol. -/
import Derived.Test.YtagkgfniihiinaaGreatDoorJ104
import Derived.Test.YtagkgfniihiinaaGreatDoorJ103
import Derived.Test.YtagkgfniihiinaaGreatDoorJ89
import Derived.Test.YtagkgfniihiinaaGreatDoorJ72
set_option linter.all false
set_option maxHeartbeats 12800000
set_option maxRecDepth 100000
namespace Go.Proofs.YtagkgfniihiinaaGreatDoor
def Bu (k:Int):UInt8:=([0,43,45,58,36,42,95,44,35,40,33,61,37,126,62]:List UInt8).getD k.toNat 0
def C0 (m:UInt8) (t:List UInt8):List UInt8:=m :: (t++[13,10])
def numL (m:UInt8) (n:Int):List UInt8:=C0 m (Lib.itoa n)
def Fa (m:UInt8) (t:List UInt8):List UInt8:=numL m t.length++(t++[13,10])
def C4 (k:Int) (n:Nat):Nat:=if k=12 then n / 2 else n
mutual
def V.wire:V->List UInt8
 | .mk k t i r f l=>
  if k=1\/k=2\/k=9 then C0 (Bu k) t.data.toList
  else if k=3 then numL 58 i
  else if k=7 then C0 44 (Bs r)
  else if k=8 then C0 35 (if f then [116] else [102])
  else if k=6 then C0 95 []
  else if k=4\/k=10\/k=11 then Fa (Bu k) t.data.toList
  else if k=5\/k=12\/k=13\/k=14 then numL (Bu k) (C4 k l.length)++V.wireL l
  else []
def V.wireL:List V->List UInt8
 | []=>[]
 | x :: l=>x.wire++V.wireL l
end
theorem V.wire_eq (v:V):v.wire=if v.kind=1\/v.kind=2\/v.kind=9 then C0 (Bu v.kind) v.text.data.toList
  else if v.kind=3 then numL 58 v.int
  else if v.kind=7 then C0 44 (Bs v.real)
  else if v.kind=8 then C0 35 (if v.flag then [116] else [102])
  else if v.kind=6 then C0 95 []
  else if v.kind=4\/v.kind=10\/v.kind=11 then Fa (Bu v.kind) v.text.data.toList
  else if v.kind=5\/v.kind=12\/v.kind=13\/v.kind=14 then numL (Bu v.kind) (C4 v.kind v.list.length)++V.wireL v.list
  else []:=by cases v;rw [V.wire];rfl
theorem V.wireL_append (a b:List V):V.wireL (a++b)=V.wireL a++V.wireL b:=by
 induction a with
 | nil=>rfl
 | cons x a ih=>rw [List.cons_append,V.wireL,ih,V.wireL,List.append_assoc]
theorem V.wireL_snoc (l:List V) (x:V):V.wireL (l++[x])=V.wireL l++x.wire:=by
 rw [V.wireL_append,V.wireL,V.wireL,List.append_nil]
theorem dig_ne {c:UInt8} (h:isD c=true):c≠13:=fun e=>by subst e;exact absurd h (by decide)
theorem dec_free (u:Nat):(13:UInt8) ∉ Lib.decDigits u:=fun h=>dig_ne (Dr u _ h) rfl
theorem Fu (n:Int):(13:UInt8) ∉ Lib.itoa n:=by
 unfold Lib.itoa;split
 ·intro h
  rcases List.mem_cons.1 h with h | h
  ·exact absurd h (by decide)
  ·exact dec_free _ h
 ·exact dec_free _
theorem dec_inj {u v:Nat} (h:Lib.decDigits u=Lib.decDigits v):u=v:=by
 have:=congrArg valD h;rwa [El,El] at this
theorem itoa_inj {n m:Int} (h:Lib.itoa n=Lib.itoa m):n=m:=by
 have a:∀{u v:Nat},45 :: Lib.decDigits u=Lib.decDigits v->False:=fun {u v} h=>by
  have:=Dr v 45 (by rw [<-h];exact List.mem_cons_self ..);exact absurd this (by decide)
 unfold Lib.itoa at h;split at h<;>split at h
 ·have:=dec_inj (List.cons.inj h).2;omega
 ·exact (a h).elim
 ·exact (a h.symm).elim
 ·have:=dec_inj h;omega
theorem real_free {r:Nat} (h:r<18446744073709551616):(13:UInt8) ∉ Bs r:=by
 cases hnan:nanF r with
 | true=>rw [Eo hnan];decide
 | false=>
  rw [Dc hnan];have hb:=De hnan;intro hm;rcases List.mem_append.1 hm with hm | hm
  ·unfold A7 at hm
   split at hm
   ·rw [List.mem_singleton] at hm;exact absurd hm (by decide)
   ·cases hm
  ·rcases Nat.eq_or_lt_of_le hb with h1 | h1
   ·rw [h1] at hm
    unfold B0 at hm;rw [if_pos rfl] at hm;exact absurd hm (by decide)
   ·rcases Nat.eq_zero_or_pos (r % 9223372036854775808) with h0 | h0
    ·rw [h0,Dx] at hm;exact absurd hm (by decide)
    ·obtain ⟨_,d,L,m,x,hR⟩:=Cv (s:=⟨(B0 (r % 9223372036854775808)).toArray⟩) (neg:=false) h0 h1 rfl
     obtain ⟨⟨c,b,rest,e1,_,_,_,e5⟩,_,_⟩:=hR.txt;have e6:B0 (r % 9223372036854775808)=c :: b:=e1;rw [e6] at hm;rcases e5 13 hm with h | h | h | h | h
     ·exact absurd h (by decide)
     all_goals exact absurd h (by decide)
theorem crlf_free {t:ByteArray} (h:E5 t=false):(13:UInt8) ∉ t.data.toList:=by
 intro hm;obtain ⟨i,hi,e⟩:=List.getElem_of_mem hm;unfold E5 Lib.containsAny at h;rw [decide_eq_false_iff_not] at h;refine h ?_;have a:∀(l:List UInt8),(13:UInt8)∈l->0<=Lib.indexAny l [13,10]:=by
  intro l;induction l with
  | nil=>intro h;cases h
  | cons b l ih=>
   intro h;unfold Lib.indexAny;split
   ·exact Int.le_refl _
   ·rename_i hb
    rcases List.mem_cons.1 h with h | h
    ·subst h;exact absurd (by decide) hb
    ·have:=ih h
     split
     ·rename_i h2
      have h3:=beq_iff_eq.1 h2;omega
     ·omega
 exact a _ hm
theorem big_free {t:ByteArray} (h:bigB t=true):(13:UInt8) ∉ t.data.toList:=by
 rw [bigB_eq,Bool.and_eq_true,List.all_eq_true] at h;intro hm;have hd:=h.2;unfold Fb at hd;have b:digB 13=false:=by decide
 split at hd
 ·rename_i a
  cases hl:t.data.toList with
  | nil=>rw [hl] at hm;cases hm
  | cons c l=>
   rw [hl] at hm hd a;rcases List.mem_cons.1 hm with h1 | h1
   ·rw [List.head?_cons] at a
    have:=Option.some.inj a;rw [<-h1] at this;exact absurd this (by decide)
   ·have:=hd 13 (by simpa using h1)
    rw [b] at this;cases this
 ·have:=hd 13 (by simpa using hm)
  rw [b] at this;cases this
structure OkOut (v:V):Prop where
 kind:1<=v.kind/\v.kind<=14
 text:¬(v.kind=1\/v.kind=2\/v.kind=4\/v.kind=9\/v.kind=10\/v.kind=11)->v.text=⟨#[]⟩
 int:v.kind≠3->v.int=0
 real:v.kind≠7->A9 v.real=0
 flag:v.kind≠8->v.flag=false
 list:¬(v.kind=5\/v.kind=12\/v.kind=13\/v.kind=14)->v.list=[]
 line:v.kind=1\/v.kind=2->E5 v.text=false
 big:v.kind=9->bigB v.text=true
 even:v.kind=12->v.list.length % 2=0
 size:v.text.size<=4096
theorem empty_text {t:ByteArray} (h:Ef t=true):t=⟨#[]⟩:=by
 unfold Ef at h;rw [List.isEmpty_iff,ByteArray.toList_eq] at h;exact ByteArray.ext (Array.toList_inj.1 h)
theorem ok_out {v:V} (h:okV v=true):OkOut v:=by
 unfold okV at h;rw [Bool.and_eq_true,Bool.and_eq_true,Bool.and_eq_true,decide_eq_true_eq] at h;obtain ⟨⟨⟨h1,h2⟩,h3⟩,h4⟩:=h;unfold Cm at h1;unfold B4 Bo at h2;simp only [Bool.and_eq_true,Bool.or_eq_true,decide_eq_true_eq] at h1 h2;obtain ⟨⟨⟨⟨a1,a2⟩,a3⟩,a4⟩,a5⟩:=h2;unfold B1 at h3;refine ⟨h1,fun hn=>?_,fun hn=>?_,fun hn=>?_,fun hn=>?_,fun hn=>?_,fun hk=>?_,fun hk=>?_,fun hk=>?_,h4⟩
 ·rcases a1 with a | a
  ·unfold Bt at a;exact absurd (of_decide_eq_true a) hn
  ·exact empty_text a
 ·rcases a2 with a | a
  ·unfold numK at a;exact absurd (of_decide_eq_true a) hn
  ·exact a
 ·rcases a3 with a | a
  ·unfold Bz at a;exact absurd (of_decide_eq_true a) hn
  ·exact a
 ·rcases a4 with a | a
  ·unfold B3 at a;exact absurd (of_decide_eq_true a) hn
  ·simpa using a
 ·rcases a5 with a | a
  ·unfold Al at a;exact absurd (of_decide_eq_true a) hn
  ·exact List.length_eq_zero_iff.1 a
 ·rw [if_pos hk] at h3;simpa using h3
 ·rw [if_neg (by omega),if_pos hk] at h3;exact h3
 ·rw [if_neg (by omega),if_neg (by omega),if_neg (by omega),if_pos hk] at h3;exact of_decide_eq_true h3
theorem bits_canon {r:Nat} (h:r<18446744073709551616):A9 r=Cp r:=by
 have h1:=order_self h;have e:nanB r=nanF r:=by
  unfold nanB;have h2:(FloatKind.f64.format.order r r == some .eq)=!nanF r:=h1;rw [bne,h2,Bool.not_not]
 unfold A9 Cp;rw [e];rfl
theorem itoa_len21 {n:Int} (h0:-9223372036854775808<=n) (h1:n<=9223372036854775807):(Lib.itoa n).length<=21:=by
 have:=Lib.itoa_length_le n h0 h1;omega
theorem D4 (m:UInt8) (t:List UInt8):(C0 m t).length=t.length+3:=by unfold C0;simp
theorem numL_len (m:UInt8) {n:Int} (h0:-9223372036854775808<=n) (h1:n<=9223372036854775807):(numL m n).length<=24:=by
 have:=itoa_len21 h0 h1;unfold numL;rw [D4];omega
theorem size_l' (t:ByteArray):t.data.toList.length=t.size:=(size_l t).symm
theorem wire_len (a:V):∀d:Int,a.fine d=true->a.ranged->a.count<=100000->3<=a.wire.length/\a.wire.length<=5000 * a.count:=by
 induction a using V.ind with
 | h a ih=>
 intro d ha ra hc;rw [V.fine_eq,Bool.and_eq_true,Bool.and_eq_true] at ha;obtain ⟨⟨oa,_⟩,fa⟩:=ha;replace oa:=ok_out oa;rw [V.ranged_eq] at ra;obtain ⟨e,f,g,i⟩:=ra;have hce:=a.count_eq;have hln:=V.length_le a.list;have c:∀(la:List V),(∀z∈la,z∈a.list)->V.fineL la (d - 1)=true->V.rangedL la->V.countL la<=100000->(V.wireL la).length<=5000 * V.countL la:=by
  intro la;induction la with
  | nil=>intro _ _ _ _;exact Nat.zero_le _
  | cons p la ihl=>
   intro hm f1 r1 hc;simp only [V.fineL,Bool.and_eq_true] at f1;simp only [V.countL] at hc ⊢;have h1:=(ih p (hm p (List.mem_cons_self ..)) _ f1.1.2 r1.1 (by omega)).2;have h2:=ihl (fun z hz=>hm z (List.mem_cons_of_mem _ hz)) f1.2 r1.2 (by omega);rw [V.wireL,List.length_append];omega
 have hL:=c a.list (fun _ h=>h) fa i (by omega);have hsz:=oa.size;have hkk:=oa.kind;have hn:∀m:UInt8,∀n:Nat,n<=100000->(numL m (n:Int)).length<=24:=fun m n hn=>numL_len m (by omega) (by omega);have b:∀(m:UInt8) (n:Int),3<=(numL m n).length:=fun m n=>by unfold numL;rw [D4];omega
 have hm:C4 a.kind a.list.length<=100000:=by unfold C4;split<;>omega
 have ht:=size_l' a.text;have hr:=text_len g;rw [V.wire_eq];split
 ·rw [D4];omega
 split
 ·have h1:=numL_len 58 e f
  have h2:=b 58 a.int;omega
 split
 ·rw [D4];omega
 split
 ·rw [D4];split<;>simp<;>omega
 split
 ·rw [D4];simp;omega
 split
 ·unfold Fa
  have h1:=hn (Bu a.kind) a.text.data.toList.length (by omega);have h2:=b (Bu a.kind) a.text.data.toList.length;simp only [List.length_append,List.length_cons,List.length_nil];omega
 split
 ·have h1:=hn (Bu a.kind) (C4 a.kind a.list.length) hm
  have h2:=b (Bu a.kind) (C4 a.kind a.list.length);rw [List.length_append];omega
 ·omega
end Go.Proofs.YtagkgfniihiinaaGreatDoor
namespace Go.Proofs.YtagkgfniihiinaaGreatDoor
open Go.RowKit Go.Joins
def Gc (B:Nat) (w:World):Addr->Option Value:=fun a=>if a.block<B then w.cell? a else none
theorem older_cell {B:Nat} {w:World} {a:Addr} {u:Value} (h:Gc B w a=some u):w.cell? a=some u/\a.block<B:=by
 unfold Gc at h;split at h
 ·exact ⟨h,‹_›⟩
 ·cases h
theorem Gg {B:Nat} {w w' : World} (hb:Below B w w'):∀a u,Gc B w a=some u->Gc B w' a=some u:=fun a u h=>by
 obtain ⟨h1,h2⟩:=older_cell h;unfold Gc;rw [if_pos h2,hb.cell h2];exact h1
theorem Ep {B:Nat} {w:World}:∀a u,Gc B w a=some u->w.cell? a=some u:=fun _ _ h=>(older_cell h).1
theorem older_of {B:Nat} {w:World} (hB:w.heap.size<=B):∀a u,w.cell? a=some u->Gc B w a=some u:=fun a u h=>by
 unfold Gc;rw [if_pos (Nat.lt_of_lt_of_le (World.block_lt_of_cell? _ _ h) hB)];exact h
structure LaidV (B:Nat) (w:World):Prop where
 nums:Laid B w
 flo:∃W0:World,W0.heap.size<=B/\Flo W0/\Below W0.heap.size W0 w
theorem LaidV.below {B B' : Nat} {w w' : World} (h:LaidV B w) (hb:Below B' w w') (hB:B<=B'):LaidV B w' :=
 ⟨h.nums.below hb hB,let ⟨W0,h1,h2,h3⟩:=h.flo;⟨W0,h1,h2,h3.trans (hb.mono (Nat.le_trans h1 hB))⟩⟩
theorem LaidV.of {w:World} (h:Nums w) (hf:Flo w):LaidV w.heap.size w:=⟨Laid.of h,w,Nat.le_refl _,hf,Below.refl _ _⟩
theorem LaidV.mono {B B' : Nat} {w:World} (h:LaidV B w) (hB:B<=B'):LaidV B' w:=⟨h.nums.mono hB,let ⟨W0,h1,h2,h3⟩:=h.flo;⟨W0,Nat.le_trans h1 hB,h2,h3⟩⟩
theorem flo_below {w w' : World} (h:Flo w) (hb:Below w.heap.size w w'):Flo w' := ⟨h.pows.below hb h.pows.lt,Go.Joins.tab_stays Dd h.tens hb (Nat.le_refl _)⟩
theorem LaidV.isFlo {B:Nat} {w:World} (h:LaidV B w):Flo w:=by
 obtain ⟨W0,h1,h2,h3⟩:=h.flo;exact flo_below h2 h3
def lineB (m:UInt8) (t:ByteArray):ByteArray:=⟨#[m]⟩++t++⟨#[13,10]⟩
theorem ba_app (a b:List UInt8):(⟨(a++b).toArray⟩:ByteArray)=⟨a.toArray⟩++⟨b.toArray⟩:=by
 apply ByteArray.ext;simp [ByteArray.data_append]
theorem lineB_eq (m:UInt8) (t:ByteArray):(⟨(C0 m t.data.toList).toArray⟩:ByteArray)=lineB m t:=by
 apply ByteArray.ext;apply Array.toList_inj.1;simp [lineB,C0,ByteArray.data_append]
theorem numB_eq (m:UInt8) (n:Int):(⟨(numL m n).toArray⟩:ByteArray)=numB m n:=by
 apply ByteArray.ext;apply Array.toList_inj.1;simp [numB,numL,C0,ByteArray.data_append]
theorem longB_eqL (m:UInt8) (t:ByteArray):(⟨(Fa m t.data.toList).toArray⟩:ByteArray)=longB m t:=by
 unfold Fa longB;rw [ba_app,numB_eq,ba_app];have e:((t.data.toList.length:Nat):Int)=(t.size:Int):=by rw [size_l']
 rw [e,ByteArray.append_assoc]
theorem line_any {B:Nat} {w:World} {v:Value} {s:ByteArray} (m:UInt8) (t:ByteArray) (hR:Row B w v s) (hB:B<=w.heap.size) (hn:s.size<=1000000000000) (ht:t.size<=1000000000000) :
  Calls Tryz.prog 52 #[v,.int .u8 (m.toNat:Int),.string t] w fun e w' => ∃v', e=.returned v' /\ Row B w' v' (s++lineB m t)/\Below B w w' /\ NB w w' := by
 have k:s.size+1<=140737488355328:=by omega
 have a:lineB m t=⟨#[m]⟩++t++⟨#[13,10]⟩:=rfl;have e1:(⟨#[m]⟩:ByteArray).size=1:=rfl;have e2:(⟨#[13,10]⟩:ByteArray).size=2:=rfl;have l:(s++⟨#[m]⟩).size+t.size<=140737488355328:=by rw [ByteArray.size_append,e1];omega
 have n:(s++⟨#[m]⟩++t).size+(⟨#[13,10]⟩:ByteArray).size<=140737488355328:=by rw [ByteArray.size_append,ByteArray.size_append,e1,e2];omega
 clear e1 e2;replace hR:=Hd hR;replace a:=Hd a
 go_enter Tryz.func52,Tryz.ntmps52
 go_wp2_with (at_builtin;refine app_byteN rfl rfl rfl hR.out rfl k hB ?_)
 intro v1 w1 c b n1;replace n1:=Hd n1;have h:B<=w1.heap.size:=Nat.le_trans hB b.size;replace c:=Hd c;replace b:=Hd b;go_wp2_with (at_builtin;refine Ev rfl rfl rfl c.out rfl l h ?_)
 intro v3 w3 d g n3;replace n3:=Hd (n1.out.trans n3);have f:=Hd (b.out.trans g);have o:B<=w3.heap.size:=Nat.le_trans h g.size;clear c b g;replace d:=Hd d;go_wp2_with (at_builtin;refine Ev rfl rfl rfl d.out rfl n o ?_)
 intro v4 w4 p j n4;replace n4:=Hd (n3.out.trans n4);have i:=f.out.trans j;clear d f j;go_wp2_with fail
 go_ret;refine ⟨_,rfl,?_,i,n4.out⟩;rw [a.out,<-ByteArray.append_assoc,<-ByteArray.append_assoc];exact p
def marksV:Value:=.agg #[.int .u8 0,.int .u8 43,.int .u8 45,.int .u8 58,.int .u8 36,.int .u8 42,.int .u8 95,.int .u8 44,.int .u8 35,.int .u8 40,.int .u8 33,.int .u8 61,.int .u8 37,.int .u8 126,.int .u8 62]
theorem marks_any (w:World):Calls Tryz.prog 51 #[] w fun e w' => e=.returned marksV/\Below w.heap.size w w' := by
 have a:=Hd (fun (o:Obj)=>(Below.refl w.heap.size w).alloc (Nat.le_refl _) o)
 go_enter Tryz.func51,Tryz.ntmps51
 go_wp2;exact bodyPost_ret (v:=marksV) (by simp [results,Tryz.results51,go_sem,marksV]) rfl ⟨rfl,a.out _⟩
theorem mark_ix (k:Int) (h:1<=k/\k<=14) (w:World):(Instr.index 80 marksV (.int .i64 k)).run Tryz.prog w=.ok (.int .u8 ((Bu k).toNat:Int)) w:=by
 rcases (by omega:k=1\/k=2\/k=3\/k=4\/k=5\/k=6\/k=7\/k=8\/k=9\/k=10\/k=11\/k=12\/k=13\/k=14) with rfl | rfl | rfl | rfl | rfl | rfl | rfl | rfl | rfl | rfl | rfl | rfl | rfl | rfl<;>kernel_rfl
theorem fineL_mem {l:List V} {d:Int} (h:V.fineL l d=true):∀x∈l,x.fine d=true:=by
 induction l with
 | nil=>intro x hx;cases hx
 | cons y l ih=>
  intro x hx;simp only [V.fineL,Bool.and_eq_true] at h;rcases List.mem_cons.1 hx with rfl | hx
  ·exact h.1.2
  ·exact ih h.2 x hx
theorem wireL_len (l:List V) (d:Int) (h:V.fineL l d=true) (r:V.rangedL l) (c:V.countL l<=100000):(V.wireL l).length<=5000 * V.countL l:=by
 induction l with
 | nil=>exact Nat.zero_le _
 | cons p l ih=>
  simp only [V.fineL,Bool.and_eq_true] at h;simp only [V.countL] at c ⊢;have h1:=(wire_len p d h.1.2 r.1 (by omega)).2;have h2:=ih h.2 r.2 (by omega);rw [V.wireL,List.length_append];omega
theorem alloc_heap (w:World) (o:Obj):(w.alloc o).heap[w.heap.size]?=some o:=by show (w.heap.push _)[w.heap.size]?=_;simp
structure PutH (v:V) (k:Int) (t:ByteArray) (i:Int) (r:Nat) (f:Bool) (a:Option Addr) (n cap:Nat) (d:Int) (B:Nat) (w:World) (b:Value) (s:ByteArray):Prop where
 val:RV (Gc B w) (Ao k t i r f a n cap) v
 fine:v.fine d=true
 ranged:v.ranged
 count:v.count<=100000
 laid:LaidV B w
 row:Row B w b s
 base:B<=w.heap.size
 size:s.size+5000 * v.count<=1000000000000
def PutQ (v:V) (B:Nat) (w:World) (s:ByteArray) (e:Ending) (w' : World):Prop:=∃b', e=.returned b' /\ Row B w' b' (s++⟨v.wire.toArray⟩)/\Below B w w' /\ NB w w'
theorem put_any (v:V):∀(k:Int) (t:ByteArray) (i:Int) (r:Nat) (f:Bool) (a:Option Addr) (n cap:Nat) (d:Int) (B:Nat) (w:World) (b:Value) (s:ByteArray),PutH v k t i r f a n cap d B w b s ->
  Calls Tryz.prog 33 #[b,.agg #[.int .i64 k,.string t,.int .i64 i,.float .f64 r,.bool f,.slice a n cap]] w (PutQ v B w s):=by
 induction v using V.ind with
 | h v ih=>
 intro k t i r f a n cap d B w b s hp;have hk:1<=k/\k<=14:=by
  have ae:=hp.fine;rw [V.fine_eq,Bool.and_eq_true,Bool.and_eq_true] at ae;rw [hp.val.len.1];exact (ok_out ae.1.1).kind
 have hk1:¬k<1:=by omega
 have hk14:¬14<k:=by omega
 replace ih:=Hd ih;obtain ⟨hv,hf,hr,hc,hL,hR,hB,hs⟩:=hp;obtain ⟨ek,et,ei,er,ef,en⟩:=hv.len;have ae:=hf;rw [V.fine_eq,Bool.and_eq_true,Bool.and_eq_true] at ae;have ok:=ok_out ae.1.1;have am:=ok.size;rw [<-et] at am;have af:=hr;rw [V.ranged_eq,<-ei,<-er] at af;have hcp:=v.count_pos;have a4:=v.count_eq;have g:=V.length_le v.list;rw [<-en] at g;have hn9:n<=100000:=by omega
 clear a4 g;replace hL:=Hd hL;replace hR:=Hd hR;replace hv:=Hd hv;replace hf:=Hd hf;replace hr:=Hd hr;replace ok:=Hd ok;replace ae:=Hd ae;replace af:=Hd af;replace ek:=Hd ek;replace et:=Hd et;replace ei:=Hd ei;replace er:=Hd er;replace ef:=Hd ef;replace en:=Hd en;have a5:=Hd (mark_ix k (by omega));have a5:=fun W=>a5.out W;obtain ⟨W1,hW1⟩:∃W1,W1=w.alloc (.cells #[.int .i64 k,.string t,.int .i64 i,.float .f64 r,.bool f,.slice a n cap] 26):=⟨_,rfl⟩;have av:Below w.heap.size w W1:=by rw [hW1];exact (Below.refl _ _).alloc (Nat.le_refl _) _
 have aa:∀q u,#[.int .i64 k,.string t,.int .i64 i,.float .f64 r,.bool f,.slice a n cap][q]?=some u->W1.cell? ⟨w.heap.size,q,none⟩=some u:=fun q u h=>by rw [hW1,World.cell?_alloc_new];exact h
 have c0:=aa 0 (.int .i64 k) rfl;have aw:w.heap.size<W1.heap.size:=World.block_lt_of_cell? _ _ c0;replace hW1:=Hd hW1;replace aa:=Hd aa;replace av:=Hd av
 go_enter Tryz.func33,Tryz.ntmps33
 go_wp2_with fail
 rw [<-hW1.out];go_wp2_with fail
 refine Ae (by kernel_rfl) (by kernel_rfl) ?_;repeat (go_big_quiet_step ((go_at_call 51;(with_reducible exact Bl (marks_any _)))))
 refine wpQuiet_nil ?_;rintro _ ⟨xq,rfl⟩;have hS:=Ah W1 xq;obtain ⟨W2,hW2⟩:∃W2,W2=grow W1 xq:=⟨_,rfl⟩;rw [<-hW2] at hS ⊢;have g0:=Aa hS _ _ (aa.out 0 (.int .i64 k) rfl);have g1:=Aa hS _ _ (aa.out 1 (.string t) rfl);have g2:=Aa hS _ _ (aa.out 2 (.int .i64 i) rfl);have g3:=Aa hS _ _ (aa.out 3 (.float .f64 r) rfl);have g4:=Aa hS _ _ (aa.out 4 (.bool f) rfl);have g5:=Aa hS _ _ (aa.out 5 (.slice a n cap) rfl);have aj:Below w.heap.size w W2:=av.out.trans (hS.mono av.out.size);have ak:=Hd (hR.out.below aj (Nat.le_refl _));have ax:=Hd (hL.out.below aj hB);have ag:B<=W2.heap.size:=Nat.le_trans hB aj.size;have ac:Below B w W2:=aj.mono hB;have ad:NB w W2:=NB.of_below aj;have ap:W2.heap[w.heap.size]?=some (.cells #[.int .i64 k,.string t,.int .i64 i,.float .f64 r,.bool f,.slice a n cap] 26):=by rw [hS.block _ aw,hW1.out];exact alloc_heap _ _
 clear c0 hS aw;replace ad:=Hd ad;replace ap:=Hd ap;replace hW2:=Hd hW2;replace ac:=Hd ac;replace aj:=Hd aj;rcases (by omega:(k=1\/k=2\/k=9)\/(k=4\/k=10\/k=11)\/(k=5\/k=12\/k=13\/k=14)\/k=3\/k=7\/k=8\/k=6) with h | h | h | rfl | rfl | rfl | rfl
 ·have m:(⟨v.wire.toArray⟩:ByteArray)=lineB (Bu k) t:=by
   rw [<-lineB_eq,V.wire_eq,<-ek.out,<-et.out,if_pos h]
  have g:=line_any (Bu k) t ak.out ag (by omega) (by omega);rw [<-m] at g;replace g:=Hd g;clear m;obtain rfl | rfl | rfl:=h
  all_goals
   go_wp2_with fail
   refine g.out.mono ?_
   rintro e w3 ⟨b', rfl,l,p,n3⟩
   have y:=Hd (ac.out.trans p)
   have ab:=Hd (ad.out.trans n3)
   replace l:=Hd l
   clear p n3 g0 g1 g2 g3 g4 g5
   go_wp2_with fail
   go_ret
   exact ⟨_,rfl,l.out,y.out,ab.out⟩
 ·have m:(⟨v.wire.toArray⟩:ByteArray)=longB (Bu k) t:=by
   rw [<-longB_eqL,V.wire_eq,<-ek.out,<-et.out,if_neg (by omega),if_neg (by omega),if_neg (by omega),if_neg (by omega),if_neg (by omega),if_pos h]
  have g:=longN_any (Bu k) t ax.out.nums ak.out ag (by omega) (by omega);rw [<-m] at g;replace g:=Hd g;clear m;obtain rfl | rfl | rfl:=h
  all_goals
   go_wp2_with fail
   refine g.out.mono ?_
   rintro e w3 ⟨b', rfl,l,p,n3⟩
   have y:=Hd (ac.out.trans p)
   have ab:=Hd (ad.out.trans n3)
   replace l:=Hd l
   clear p n3 g0 g1 g2 g3 g4 g5
   go_wp2_with fail
   go_ret
   exact ⟨_,rfl,l.out,y.out,ab.out⟩
 ·have m:(⟨v.wire.toArray⟩:ByteArray)=numB (Bu k) ((C4 k n:Nat):Int)++⟨(V.wireL v.list).toArray⟩:=by
   rw [<-numB_eq,<-ba_app,V.wire_eq,<-ek.out,<-en.out,if_neg (by omega),if_neg (by omega),if_neg (by omega),if_neg (by omega),if_neg (by omega),if_neg (by omega),if_pos h]
  have hq:((n:Int)).tdiv 2=((n / 2:Nat):Int):=by rw [Int.tdiv_eq_ediv_of_nonneg (by omega)];omega
  have hm9:C4 k n<=100000:=by unfold C4;split<;>omega
  have ay:k≠12->C4 k n=n:=fun h=>if_neg h;have az:k=12->C4 k n=n / 2:=fun h=>if_pos h;have z1:(k == 1)=false:=by simp;omega
  have z2:(k == 2)=false:=by simp;omega
  have z9:(k == 9)=false:=by simp;omega
  have z3:(k == 3)=false:=by simp;omega
  have z7:(k == 7)=false:=by simp;omega
  have z8:(k == 8)=false:=by simp;omega
  have z6:(k == 6)=false:=by simp;omega
  have z4:(k == 4)=false:=by simp;omega
  have bh:(k == 10)=false:=by simp;omega
  have bi:(k == 11)=false:=by simp;omega
  generalize C4 k n=m2 at *;have g:=numberN_any (Bu k) (m2:Int) (by omega) (by omega) ax.out.nums ak.out ag (by omega);have bj:=numB_size (Bu k) (m2:Int) (by omega) (by omega);obtain ⟨T,hT⟩:∃T,T=numB (Bu k) (m2:Int):=⟨_,rfl⟩;rw [<-hT] at g m bj;replace hT:=Hd hT;replace g:=Hd g;replace m:=Hd m;replace ay:=Hd ay;replace az:=Hd az
  go_upto_if 77 with fail
  go_cut [6] from 6 to 79 (fun s6 wx=>s6=.int .i64 (m2:Int)/\wx=W2)
  case first=>
   by_cases h12:k=12
   ·have bk:(k == 12)=true:=by simpa using h12
    obtain rfl:=az.out h12;replace h12:=Hd h12;go_wp2_with fail
    go_meet
    exact ⟨congrArg (Value.int .i64) (by omega),rfl⟩
   ·have bk:(k == 12)=false:=by simpa using h12
    obtain rfl:=ay.out h12;replace h12:=Hd h12;go_wp2_with fail
    go_meet
    exact ⟨rfl,rfl⟩
  obtain ⟨rfl,bf⟩:=hcut;obtain rfl:=bf.symm;clear bf z1 z2 z9 z3 z7 z8 z6 z4 bh bi ay az;go_wp2_with fail
  refine g.out.mono ?_;rintro e w3 ⟨b3,rfl,l,p,n3⟩;have a1:=Hd (ac.out.trans p);have ab:=Hd (ad.out.trans n3);have f5:w3.cell? ⟨w.heap.size,5,none⟩=some (.slice a n cap):=by rw [n3.cell ap.out (by decide)];exact g5
  have hB3:B<=w3.heap.size:=Nat.le_trans ag p.size;clear g0 g1 g2 g3 g4 g5 p n3;replace l:=Hd l;go_wp2_with fail
  go_loopw [0,87] (fun s0 s87 wr=>∃j:Nat,j<=n/\s87=.int .i64 j/\Row B wr s0 (s++T++⟨(V.wireL (v.list.take j)).toArray⟩)/\Below B w wr/\NB w wr) (fun _ s87 _=>n - (intOf s87).toNat)
  case atStart=>exact ⟨0,Nat.zero_le _,rfl,by rw [List.take_zero,V.wireL];rw [show (⟨([]:List UInt8).toArray⟩:ByteArray)=⟨#[]⟩ from rfl,Bq];exact l.out,a1.out,ab.out⟩
  case round=>
   obtain ⟨j,hj,rfl,ao,ah,ar⟩:=hrel;clear l a1 ab f5;have a6:B<=wr.heap.size:=by have:=ah.size;omega
   by_cases aw:j<n
   ·have a7:(j:Int)<(n:Int):=by omega
    have a2:=hv.out.mono (Gg ah);rw [show Ao k t i r f a n cap=Ao v.kind v.text v.int v.real v.flag a n cap by rw [<-ek.out,<-et.out,<-ei.out,<-er.out,<-ef.out]] at a2;obtain ⟨x,bb,o,a', au, bg,al,rfl,hx,d0,d1,d2,d3,d4,d5⟩:=a2.elem' aw;replace d0:=Ep _ _ d0;replace d1:=Ep _ _ d1;replace d2:=Ep _ _ d2;replace d3:=Ep _ _ d3;replace d4:=Ep _ _ d4;replace d5:=Ep _ _ d5;have am:v.list.take (j+1)=v.list.take j++[x]:=by
     obtain ⟨h1,h2⟩:=List.getElem?_eq_some_iff.1 bg;rw [List.take_succ_eq_append_getElem h1,h2]
    have an:Below B wr (wr.alloc (.cells #[.int .i64 x.kind,.string x.text,.int .i64 x.int,.float .f64 x.real,.bool x.flag,.slice a' x.list.length au] 26)):=(Below.refl B wr).alloc a6 _;have aq:Below wr.heap.size wr (wr.alloc (.cells #[.int .i64 x.kind,.string x.text,.int .i64 x.int,.float .f64 x.real,.bool x.flag,.slice a' x.list.length au] 26)):=(Below.refl _ wr).alloc (Nat.le_refl _) _;have a8:=fineL_mem ae.out.2 x al;have a9:=V.rangedL_mem af.out.2.2.2 x al;have bl:=v.count_eq;have bm:V.countL (v.list.take j)+x.count<=V.countL v.list:=by
     have h1:=V.countL_take v.list (j+1);rw [am,V.countL_append] at h1;simp only [V.countL] at h1;omega
    have bn:=wireL_len (v.list.take j) (d - 1) (V.fineL_take ae.out.2 j) (rangedL_of fun z hz=>V.rangedL_mem af.out.2.2.2 z (List.mem_of_mem_take hz)) (by omega);have ba:(s++T++⟨(V.wireL (v.list.take j)).toArray⟩).size+5000 * x.count<=1000000000000:=by
     rw [ByteArray.size_append,ByteArray.size_append];have e:(⟨(V.wireL (v.list.take j)).toArray⟩:ByteArray).size=(V.wireL (v.list.take j)).length:=size_l _;omega
    have bc:=Hd (ih.out x al x.kind x.text x.int x.real x.flag a' x.list.length au (d - 1) B _ u0 _ ⟨hx.mono (Gg an),a8,a9,by omega,(hL.out.below ah (Nat.le_refl _)).below an (Nat.le_refl _),ao.below aq (Nat.le_refl _),Nat.le_trans a6 an.size,ba⟩);have bd:=Hd (ar.trans (NB.of_below aq));have be:=Hd (ah.trans an);replace am:=Hd am;replace an:=Hd an;clear a2 hx bg al a8 a9 bl bm bn ba aq ao ah ar;go_wp2_with fail
    refine bc.out.mono ?_;rintro e w5 ⟨b5,rfl,a3,ai,n5⟩;have bo:=Hd (be.out.trans ai);have bp:=Hd (bd.out.trans n5);clear ai n5 d0 d1 d2 d3 d4 d5;replace a3:=Hd a3;go_wp2_with fail
    go_roundw
    case rel=>
     refine ⟨j+1,by omega,by go_num,?_,bo.out,bp.out⟩;rw [am.out,V.wireL_snoc,ba_app,<-ByteArray.append_assoc];exact a3.out
    case measure=>simp [intOf];omega
   ·have a7:¬(j:Int)<(n:Int):=by omega
    have bq:v.list.take j=v.list:=List.take_of_length_le (by have:=en.out;omega);rw [bq,ByteArray.append_assoc,<-m.out] at ao;replace ao:=Hd ao;replace ah:=Hd ah;replace ar:=Hd ar;go_wp2_with fail
    go_ret;exact ⟨_,rfl,ao.out,ah.out,ar.out⟩
 ·have m:(⟨v.wire.toArray⟩:ByteArray)=numB 58 i:=by
   rw [<-numB_eq];congr 1;rw [V.wire_eq,<-ek.out,<-ei.out];rfl
  have g:=numberN_any 58 i af.out.1 af.out.2.1 ax.out.nums ak.out ag (by omega);rw [<-m] at g;replace g:=Hd g;clear m;go_wp2_with fail
  refine g.out.mono ?_;rintro e w3 ⟨b', rfl,l,p,n3⟩;have y:=Hd (ac.out.trans p);have ab:=Hd (ad.out.trans n3);replace l:=Hd l;clear p n3 g0 g1 g2 g3 g4 g5;go_wp2_with fail
  go_ret;exact ⟨_,rfl,l.out,y.out,ab.out⟩
 ·have m:(⟨v.wire.toArray⟩:ByteArray)=lineB 44 ⟨(Bs r).toArray⟩:=by
   rw [<-lineB_eq];congr 1;rw [V.wire_eq,<-ek.out,<-er.out];rfl
  replace m:=Hd m;go_wp2_with fail
  refine (realText_any af.out.2.2.1 ax.out.isFlo).mono ?_;rintro e w5 ⟨T,rfl,hT,ai⟩;have hTl:T.size<=25:=by rw [size_l,hT];exact text_len af.out.2.2.1
  have a0:T=⟨(Bs r).toArray⟩:=txt_eq hT;have br:B<=w5.heap.size:=Nat.le_trans ag ai.size;have g:=line_any 44 T (ak.out.below ai (Nat.le_refl _)) br (by omega) (by omega);rw [a0,<-m.out,<-a0] at g;replace ad:=Hd (ad.out.trans (NB.of_below ai));replace ac:=Hd (ac.out.trans (ai.mono ag));replace a0:=Hd a0;replace g:=Hd g;clear ai hT;go_wp2_with fail
  refine g.out.mono ?_;rintro e w3 ⟨b', rfl,l,p,n3⟩;have y:=Hd (ac.out.trans p);have ab:=Hd (ad.out.trans n3);replace l:=Hd l;clear p n3 g0 g1 g2 g3 g4 g5;go_wp2_with fail
  go_ret;exact ⟨_,rfl,l.out,y.out,ab.out⟩
 ·have m:∀c:UInt8,c=(if f then 116 else 102)->(⟨v.wire.toArray⟩:ByteArray)=lineB 35 ⟨#[c]⟩:=fun c hc=>by
   rw [<-lineB_eq];congr 1;rw [V.wire_eq,<-ek.out,<-ef.out,hc];cases f<;>rfl
  have g:=fun c:UInt8=>line_any 35 ⟨#[c]⟩ ak.out ag (by omega) (show 1<=1000000000000 by decide);cases f with
  | true=>
   replace g:=g 116;rw [<-m 116 rfl] at g;replace g:=Hd g;clear m;go_wp2_with fail
   refine g.out.mono ?_;rintro e w3 ⟨b', rfl,l,p,n3⟩;have y:=Hd (ac.out.trans p);have ab:=Hd (ad.out.trans n3);replace l:=Hd l;clear p n3 g0 g1 g2 g3 g4 g5;go_wp2_with fail
   go_ret;exact ⟨_,rfl,l.out,y.out,ab.out⟩
  | false=>
   replace g:=g 102;rw [<-m 102 rfl] at g;replace g:=Hd g;clear m;go_wp2_with fail
   refine g.out.mono ?_;rintro e w3 ⟨b', rfl,l,p,n3⟩;have y:=Hd (ac.out.trans p);have ab:=Hd (ad.out.trans n3);replace l:=Hd l;clear p n3 g0 g1 g2 g3 g4 g5;go_wp2_with fail
   go_ret;exact ⟨_,rfl,l.out,y.out,ab.out⟩
 ·have m:(⟨v.wire.toArray⟩:ByteArray)=lineB 95 ⟨#[]⟩:=by
   rw [<-lineB_eq];congr 1;rw [V.wire_eq,<-ek.out];rfl
  have g:=line_any 95 ⟨#[]⟩ ak.out ag (by omega) (by decide);rw [<-m] at g;replace g:=Hd g;clear m;go_wp2_with fail
  refine g.out.mono ?_;rintro e w3 ⟨b', rfl,l,p,n3⟩;have y:=Hd (ac.out.trans p);have ab:=Hd (ad.out.trans n3);replace l:=Hd l;clear p n3 g0 g1 g2 g3 g4 g5;go_wp2_with fail
  go_ret;exact ⟨_,rfl,l.out,y.out,ab.out⟩
theorem Aj {w w' : World} {b o:Nat} {cs:List Value} (hb:Below w.heap.size w w') (h:w.rangeAt b o cs):w'.rangeAt b o cs:=fun j u hj=>Aa hb _ _ (h j u hj)
theorem bytes3_any (v:V) (a:Option Addr) (cap:Nat) (d:Int) (w:World) (hv:RV w.cell? (Ao v.kind v.text v.int v.real v.flag a v.list.length cap) v) (hf:v.fine d=true) (hr:v.ranged) (hc:v.count<=100000) (hL:LaidV w.heap.size w) :
  Calls Tryz.prog 16 #[.agg #[.int .i64 v.kind,.string v.text,.int .i64 v.int,.float .f64 v.real,.bool v.flag,.slice a v.list.length cap],.int .i64 3] w fun e w' => ∃b,e=.returned b/\Row w.heap.size w' b ⟨v.wire.toArray⟩/\Below w.heap.size w w' := by
 obtain ⟨W1,hW1⟩:∃W1,W1=w.alloc (.cells #[.int .i64 v.kind,.string v.text,.int .i64 v.int,.float .f64 v.real,.bool v.flag,.slice a v.list.length cap] 26):=⟨_,rfl⟩;have f:Below w.heap.size w W1:=by rw [hW1];exact (Below.refl _ _).alloc (Nat.le_refl _) _
 have c:=put_any v v.kind v.text v.int v.real v.flag a v.list.length cap d w.heap.size W1 (.slice none 0 0) ⟨#[]⟩ ⟨(hv.mono (older_of (Nat.le_refl _))).mono (Gg f),hf,hr,hc,hL.below f (Nat.le_refl _),Row.nil _ _,f.size,by
  have e:(⟨#[]⟩:ByteArray).size=0:=rfl;omega⟩
 rw [hW1] at c;replace c:=Hd c;replace f:=Hd f;replace hW1:=Hd hW1;clear hv hL
 go_enter Tryz.func16,Tryz.ntmps16
 go_wp2_with fail
 refine c.out.mono ?_;rintro e w' ⟨b,rfl,hR,hb,-⟩;rw [ba_nil_left] at hR;rw [<-hW1.out] at hb;have g:=Hd (f.out.trans hb);clear hb;replace hR:=Hd hR;go_wp2_with fail
 go_ret;exact ⟨_,rfl,hR.out,g.out⟩
theorem checkZ_fine {v:V} (h:Ez v=true):v.fine 8=true/\v.count<=1000:=by
 rw [<-right_check] at h;unfold Fk at h;split at h
 ·assumption
 ·exact absurd h (by decide)
namespace R2
