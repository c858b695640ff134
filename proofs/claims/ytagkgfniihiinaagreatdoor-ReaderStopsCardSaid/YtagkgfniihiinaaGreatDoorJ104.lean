/- strconv.FormatFloat, the shortest digits; real.Text. -/
import Derived.Test.YtagkgfniihiinaaGreatDoorFtoa
import Derived.Deep.AppendLies
import Derived.Test.YtagkgfniihiinaaGreatDoorRIs
set_option linter.all false
set_option maxHeartbeats 1600000
set_option maxRecDepth 100000
namespace Go.Proofs.YtagkgfniihiinaaGreatDoor
open Go.RowKit
theorem Row.text {B:Nat} {w:World} {v:Value} {s:ByteArray} (h:Row B w v s) (hs:0<s.data.size):(convert 27 9 v).run Tryz.prog w=.ok (.string s) w:=by
 have hs' : 0<s.size:=hs;obtain ⟨g,ca,rfl,hg1,hg2⟩:=h.own.form (by omega);have hl:s.size=s.data.toList.length:=by rw [Array.length_toList];rfl
 have h7:=run_convert_bytes_back (P:=Tryz.prog) w 27 9 5 ⟨g,0,none⟩ ca s.data.toList Tryz.underlying27 Tryz.underlying5 Tryz.underlying9 (fun q hq=>by
  have h8:=h.own.cellAt q (by rw [hl];simpa using hq);rw [add_at,Nat.zero_add,h8,Lib.strCells,List.getElem?_map,List.getElem?_eq_getElem hq];rfl)
 rw [hl];refine h7.trans ?_;rfl
theorem effE_pos (neg:Bool) (D:List UInt8) (dp:Int):0<(effE neg D dp).length:=by unfold effE;simp;omega
theorem effF_pos (neg:Bool) (D:List UInt8) (dp:Int):0<(effF neg D dp).length:=by
 unfold effF;rw [List.length_append,List.length_append];split
 ·rw [List.length_append,List.length_replicate,List.length_take];omega
 ·simp;omega
theorem ifmtE_any {w:World} {n:Nat} (hn:n<18446744073709551616) (hr:n % 9223372036854775808<9218868437227405312) (hF:Flo w) :
  Calls Tryz.prog 94 #[.float .f64 n,.int .u8 101,.int .i64 (-1),.int .i64 64] w fun e w' => ∃t:ByteArray,e=.returned (.string t)/\t.data.toList=effE (decide (9223372036854775808<=n)) (digL (n % 9223372036854775808)) (Br (n % 9223372036854775808))/\Below w.heap.size w w' := by
 obtain ⟨ht,hsz,hb,i,z,hi,hz,k,l,hz1⟩:=eByte1;replace hF:=Hd hF
 go_enter Tryz.func94,Tryz.ntmps94
 go_wp2_with (at_make;refine wpList_make_own _ rfl _ _ 27 rfl w.heap.size 5 i z 1 ht hi hz k .i64 .i64 24 24 rfl rfl rfl (by rw [l];decide) (by decide) (Nat.le_refl _) ?_)
 intro w1 g h;have a:Below w.heap.size w w1:=(Fr.of_grown h).below (Nat.le_refl _) (fun i hi e=>by cases e);have d:Row w.heap.size w1 (.slice (some ⟨w.heap.size,0,none⟩) 0 24) ⟨#[]⟩:=⟨g⟩;have f:Flo w1:=⟨hF.out.pows.below a hF.out.pows.lt,Go.Joins.tab_stays Dd hF.out.tens a (Nat.le_refl _)⟩;replace a:=Hd a;replace g:=Hd g;replace h:=Hd h;replace d:=Hd d;replace f:=Hd f;go_wp2_with fail
 refine (ftoaE_any (B:=w.heap.size) hn hr d.out (by decide) a.out.size hF.out.pows.lt f.out).mono ?_;rintro e w2 ⟨v2,t,rfl,b,c,m⟩;rw [ba_nil_left] at c;have hcv:=c.text (by rw [<-Array.length_toList,b];exact effE_pos _ _ _);have j:=a.out.trans m;replace b:=Hd b;replace c:=Hd c;go_wp2_with fail
 go_ret;exact ⟨t,rfl,b.out,j⟩
theorem sfmtE_any {w:World} {n:Nat} (hn:n<18446744073709551616) (hr:n % 9223372036854775808<9218868437227405312) (hF:Flo w) :
  Calls Tryz.prog 78 #[.float .f64 n,.int .u8 101,.int .i64 (-1),.int .i64 64] w fun e w' => ∃t:ByteArray,e=.returned (.string t)/\t.data.toList=effE (decide (9223372036854775808<=n)) (digL (n % 9223372036854775808)) (Br (n % 9223372036854775808))/\Below w.heap.size w w' := by
 have h:=Hd (ifmtE_any hn hr hF);clear hF
 go_enter Tryz.func78,Tryz.ntmps78
 go_wp2_with fail
 refine h.out.mono ?_;rintro e w2 ⟨t,rfl,ht,hb⟩;replace ht:=Hd ht;go_wp2_with fail
 go_ret;exact ⟨t,rfl,ht.out,hb⟩
theorem ifmtF_any {w:World} {n:Nat} (hn:n<18446744073709551616) (hr:n % 9223372036854775808<9218868437227405312) (hF:Flo w) :
  Calls Tryz.prog 94 #[.float .f64 n,.int .u8 102,.int .i64 (-1),.int .i64 64] w fun e w' => ∃t:ByteArray,e=.returned (.string t)/\t.data.toList=effF (decide (9223372036854775808<=n)) (digL (n % 9223372036854775808)) (Br (n % 9223372036854775808))/\Below w.heap.size w w' := by
 obtain ⟨ht,hsz,hb,i,z,hi,hz,k,l,hz1⟩:=eByte1;replace hF:=Hd hF
 go_enter Tryz.func94,Tryz.ntmps94
 go_wp2_with (at_make;refine wpList_make_own _ rfl _ _ 27 rfl w.heap.size 5 i z 1 ht hi hz k .i64 .i64 24 24 rfl rfl rfl (by rw [l];decide) (by decide) (Nat.le_refl _) ?_)
 intro w1 g h;have a:Below w.heap.size w w1:=(Fr.of_grown h).below (Nat.le_refl _) (fun i hi e=>by cases e);have d:Row w.heap.size w1 (.slice (some ⟨w.heap.size,0,none⟩) 0 24) ⟨#[]⟩:=⟨g⟩;have f:Flo w1:=⟨hF.out.pows.below a hF.out.pows.lt,Go.Joins.tab_stays Dd hF.out.tens a (Nat.le_refl _)⟩;replace a:=Hd a;replace g:=Hd g;replace h:=Hd h;replace d:=Hd d;replace f:=Hd f;go_wp2_with fail
 refine (ftoaF_any (B:=w.heap.size) hn hr d.out (by decide) a.out.size hF.out.pows.lt f.out).mono ?_;rintro e w2 ⟨v2,t,rfl,b,c,m⟩;rw [ba_nil_left] at c;have hcv:=c.text (by rw [<-Array.length_toList,b];exact effF_pos _ _ _);have j:=a.out.trans m;replace b:=Hd b;replace c:=Hd c;go_wp2_with fail
 go_ret;exact ⟨t,rfl,b.out,j⟩
theorem sfmtF_any {w:World} {n:Nat} (hn:n<18446744073709551616) (hr:n % 9223372036854775808<9218868437227405312) (hF:Flo w) :
  Calls Tryz.prog 78 #[.float .f64 n,.int .u8 102,.int .i64 (-1),.int .i64 64] w fun e w' => ∃t:ByteArray,e=.returned (.string t)/\t.data.toList=effF (decide (9223372036854775808<=n)) (digL (n % 9223372036854775808)) (Br (n % 9223372036854775808))/\Below w.heap.size w w' := by
 have h:=Hd (ifmtF_any hn hr hF);clear hF
 go_enter Tryz.func78,Tryz.ntmps78
 go_wp2_with fail
 refine h.out.mono ?_;rintro e w2 ⟨t,rfl,ht,hb⟩;replace ht:=Hd ht;go_wp2_with fail
 go_ret;exact ⟨t,rfl,ht.out,hb⟩
theorem atoi_exp:∀k:Fin 1999,Lib.atoi (expL ((k.val:Int) - 999))=some ((k.val:Int) - 999):=by decide +kernel
theorem atoi_expL {x:Int} (h0:-999<=x) (h1:x<=999):Lib.atoi (expL x)=some x:=by
 have:=atoi_exp ⟨(x+999).toNat,by omega⟩;simp only at this;rw [show (((x+999).toNat:Nat):Int) - 999=x by omega] at this;exact this
theorem index_past {A E:List UInt8} {c:UInt8} (h:∀b∈A,b≠c):Lib.indexByte (A++c :: E) c=A.length:=by
 induction A with
 | nil=>simp [Lib.indexByte]
 | cons a A ih=>
  have h1:=ih (fun b hb=>h b (List.mem_cons_of_mem _ hb));have h2:(a == c)=false:=by simpa using h a (List.mem_cons_self ..)
  rw [List.cons_append,Lib.indexByte,h2,h1];have h3:((A.length:Int) == -1)=false:=by simp
  rw [h3];simp
def Ee (neg:Bool) (D:List UInt8):List UInt8:=A7 neg++[D.headD 48]++(if 1<D.length then 46 :: D.tail else [])
theorem effE_front (neg:Bool) (D:List UInt8) (dp:Int):effE neg D dp=Ee neg D++101 :: expL (if D=[] then 0 else dp - 1):=by
 unfold effE Ee;simp
theorem front_len (neg:Bool) (D:List UInt8):(Ee neg D).length<=3+D.length:=by
 unfold Ee;rw [List.length_append,List.length_append];have h1:(A7 neg).length<=1:=by unfold A7;split<;>simp
 have h2:(if 1<D.length then 46 :: D.tail else []:List UInt8).length<=1+D.length:=by split<;>simp<;>omega
 simp only [List.length_singleton];omega
theorem front_ne {neg:Bool} {D:List UInt8} (hd:∀c∈D,isD c=true):∀b∈Ee neg D,b≠101:=by
 have d:∀c:UInt8,isD c=true->c≠101:=fun c h e=>by rw [e] at h;revert h;decide
 intro b hb;unfold Ee at hb;rw [List.mem_append,List.mem_append] at hb;rcases hb with (hb | hb) | hb
 ·unfold A7 at hb
  split at hb
  ·rw [List.mem_singleton] at hb;rw [hb];decide
  ·simp at hb
 ·rw [List.mem_singleton] at hb
  rw [hb];cases D with
  | nil=>decide
  | cons a l=>exact d a (hd a (List.mem_cons_self ..))
 ·split at hb
  ·rw [List.mem_cons] at hb
   rcases hb with hb | hb
   ·rw [hb];decide
   ·exact d b (hd b (List.mem_of_mem_tail hb))
  ·simp at hb
theorem digL_isD (r:Nat):∀c∈digL r,isD c=true:=by
 intro c hc;unfold digL at hc;split at hc
 ·simp at hc
 ·exact Dr _ c (stripZ_mem hc)
theorem point_bounds {r:Nat} (hr:r<9218868437227405312):-400<=Br r/\Br r<=400:=by
 unfold Br;split
 ·omega
 ·obtain ⟨a,b,c,d⟩:=Ds (r:=r) (by omega) hr
  have:=Lib.nDigits_le20 (A5 r).1 (by omega);have:=Lib.nDigits_pos (A5 r).1;omega
theorem digL_len (r:Nat) (hr:r<9218868437227405312):(digL r).length<=20:=by
 unfold digL;split
 ·simp
 ·obtain ⟨a,b,c,d⟩:=Ds (r:=r) (by omega) hr
  have:=Ga (Lib.decDigits (A5 r).1);rw [Lib.decDigits_length] at this;have:=Lib.nDigits_le20 (A5 r).1 (by omega);omega
def expN (r:Nat):Int:=if digL r=[] then 0 else Br r - 1
theorem Eo {n:Nat} (h:nanF n=true):Bs n=[110,97,110]:=if_pos h
theorem realL_inf {n:Nat} (h:nanF n=false) (h2:n % 9223372036854775808=9218868437227405312):Bs n=A7 (decide (9223372036854775808<=n))++[105,110,102]:=by
 unfold Bs;rw [if_neg (by simp [h]),if_pos h2]
theorem realL_num {n:Nat} (h:nanF n=false) (h2:n % 9223372036854775808≠9218868437227405312):Bs n =
  if expN (n % 9223372036854775808) < -4\/21<=expN (n % 9223372036854775808) then effE (decide (9223372036854775808<=n)) (digL (n % 9223372036854775808)) (Br (n % 9223372036854775808))
  else effF (decide (9223372036854775808<=n)) (digL (n % 9223372036854775808)) (Br (n % 9223372036854775808)):=by
 unfold Bs;rw [if_neg (by simp [h]),if_neg h2];rfl
theorem realText_any {w:World} {n:Nat} (hn:n<18446744073709551616) (hF:Flo w) :
  Calls Tryz.prog 48 #[.float .f64 n] w fun e w' => ∃t:ByteArray,e=.returned (.string t)/\t.data.toList=Bs n/\Below w.heap.size w w' := by
 have h1:=isNaN_any hn;cases hnan:nanF n with
 | true=>
  have hL:=Eo hnan;rw [hnan] at h1;clear hnan;replace hF:=Hd hF;replace h1:=Hd h1;replace hL:=Hd hL
  go_enter Tryz.func48,Tryz.ntmps48
  go_wp2_with fail
  refine (h1.out _).mono ?_;rintro e w' ⟨rfl,a⟩;obtain rfl:=a.symm;clear a;go_wp2;go_ret;exact ⟨_,rfl,hL.out.symm,Below.refl _ _⟩
 | false=>
  have h2:=isInf_pos hn hnan;have h3:=isInf_neg hn hnan;rw [hnan] at h1;by_cases hinf:n % 9223372036854775808=9218868437227405312
  ·have hL:=realL_inf hnan hinf
   replace hF:=Hd hF;replace h1:=Hd h1;by_cases hp:n=9218868437227405312
   ·rw [decide_eq_true hp] at h2
    have d:Bs n=[105,110,102]:=by rw [hL,decide_eq_false (by omega)];rfl
    replace d:=Hd d;replace h2:=Hd h2;clear h3 hp hL hinf hnan
    go_enter Tryz.func48,Tryz.ntmps48
    go_wp2_with fail
    refine (h1.out _).mono ?_;rintro e w' ⟨rfl,a⟩;obtain rfl:=a.symm;clear a;go_wp2_with fail
    refine (h2.out _).mono ?_;rintro e w' ⟨rfl,a⟩;obtain rfl:=a.symm;clear a;go_wp2;go_ret;exact ⟨_,rfl,d.out.symm,Below.refl _ _⟩
   ·rw [decide_eq_false hp] at h2
    have u:n=18442240474082181120:=by omega
    rw [decide_eq_true u] at h3;have d:Bs n=[45,105,110,102]:=by rw [hL,decide_eq_true (by omega)];rfl
    replace d:=Hd d;replace h2:=Hd h2;replace h3:=Hd h3;clear hp u hL hinf hnan
    go_enter Tryz.func48,Tryz.ntmps48
    go_wp2_with fail
    refine (h1.out _).mono ?_;rintro e w' ⟨rfl,a⟩;obtain rfl:=a.symm;clear a;go_wp2_with fail
    refine (h2.out _).mono ?_;rintro e w' ⟨rfl,a⟩;obtain rfl:=a.symm;clear a;go_wp2_with fail
    refine (h3.out _).mono ?_;rintro e w' ⟨rfl,a⟩;obtain rfl:=a.symm;clear a;go_wp2;go_ret;exact ⟨_,rfl,d.out.symm,Below.refl _ _⟩
  ·have hr:n % 9223372036854775808<9218868437227405312:=by
    unfold nanF at hnan;have:=of_decide_eq_false hnan;omega
   have hL:=realL_num hnan hinf;rw [decide_eq_false (by omega)] at h2 h3;obtain ⟨r,hre⟩:∃r,r=n % 9223372036854775808:=⟨_,rfl⟩;obtain ⟨nb,hnb⟩:∃nb:Bool,nb=decide (9223372036854775808<=n):=⟨_,rfl⟩;have hE:=sfmtE_any hn hr hF;have p:∀wz,Flo wz->_:=fun wz hz=>sfmtF_any (w:=wz) hn hr hz;rw [<-hre,<-hnb] at hL hE;rw [<-hre] at hr;have aa:=point_bounds hr;obtain ⟨x,hx⟩:∃x,x=expN r:=⟨_,rfl⟩;have hx9:-401<=x/\x<=400:=by rw [hx];unfold expN;split<;>omega
   rw [<-hx] at hL;have hlen:=digL_len r hr;clear hinf hnan aa;replace hF:=Hd hF;replace h1:=Hd h1;replace h2:=Hd h2;replace h3:=Hd h3;replace hE:=Hd hE;replace p:=Hd p;replace hL:=Hd hL;replace hre:=Hd hre;replace hnb:=Hd hnb;replace hx:=Hd hx
   go_enter Tryz.func48,Tryz.ntmps48
   go_wp2_with fail
   refine (h1.out _).mono ?_;rintro e w' ⟨rfl,a⟩;obtain rfl:=a.symm;clear a;go_wp2_with fail
   refine (h2.out _).mono ?_;rintro e w' ⟨rfl,a⟩;obtain rfl:=a.symm;clear a;go_wp2_with fail
   refine (h3.out _).mono ?_;rintro e w' ⟨rfl,a⟩;obtain rfl:=a.symm;clear a;go_wp2_with fail
   refine hE.out.mono ?_;rintro e w1 ⟨t,rfl,ht,h⟩;have i:t.data.toList=Ee nb (digL r)++101 :: expL x:=by rw [ht,effE_front,hx.out];rfl
   obtain ⟨k,hk⟩:∃k:Nat,k=(Ee nb (digL r)).length:=⟨_,rfl⟩;have hk64:(k:Int)<=100:=by have:=front_len nb (digL r);omega
   have j:=Tryz.strings_IndexByte t 101 w1;have o:Lib.indexByte t.data.toList (101:Int).toNat.toUInt8=(k:Int):=by
    rw [i,hk];exact index_past (front_ne (digL_isD r))
   rw [o] at j;have v:t.size=k+1+(expL x).length:=by
    have:t.size=t.data.toList.length:=by rw [Array.length_toList];rfl
    rw [this,i,hk];simp;omega
   have ab:=expL_len x;obtain ⟨t2,ht2e⟩:∃t2,t2=t.extract (k+1) t.size:=⟨_,rfl⟩;have f:t2.data.toList=expL x:=by
    rw [ht2e,ext_list,i,hk];rw [show Ee nb (digL r)++101 :: expL x=(Ee nb (digL r)++[101])++expL x by simp];rw [show (Ee nb (digL r)).length+1=(Ee nb (digL r)++[101]).length by simp,List.drop_left];refine List.take_of_length_le ?_;rw [v,hk];simp
   have m:=Tryz.strconv_Atoi t2 x (by
    have:t2.size=t2.data.toList.length:=by rw [Array.length_toList];rfl
    rw [this,f];omega) (by rw [f];exact atoi_expL (by omega) (by omega))
   replace ht:=Hd ht;replace i:=Hd i;replace hk:=Hd hk;replace j:=Hd j;replace m:=Hd m;replace f:=Hd f;clear o;have hkt:(k:Int)+1<=(t.size:Int):=by omega
   have hkt0:(0:Int)<=(k:Int)+1:=by omega
   replace ht2e:=ht2e.symm;have l:Flo w1:=⟨hF.out.pows.below h hF.out.pows.lt,Go.Joins.tab_stays Dd hF.out.tens h (Nat.le_refl _)⟩;replace l:=Hd l;replace h:=Hd h;clear v ab;go_wp2_with fail
   refine j.out.mono ?_;rintro e w' ⟨rfl,a⟩;obtain rfl:=a.symm;clear a;go_wp2_with fail
   refine (m.out _).mono ?_;rintro e w2 ⟨rfl,tb,z⟩;have g:Below w1.heap.size w1 w2:=by rw [z];exact Go.Joins.below_bytesWorld _ _ _ _ (Nat.le_refl _)
   have c:Below w.heap.size w w2:=h.out.trans (g.mono h.out.size);have q:Flo w2:=⟨l.out.pows.below g l.out.pows.lt,Go.Joins.tab_stays Dd l.out.tens g (Nat.le_refl _)⟩;replace c:=Hd c;replace q:=Hd q;clear z g m j;by_cases hx4:x < -4
   ·have b:=hL.out
    rw [if_pos (.inl hx4),<-ht.out] at b;replace b:=Hd b;go_wp2_with fail
    go_ret;exact ⟨t,rfl,b.out.symm,c.out⟩
   ·by_cases hx21:21<=x
    ·have b:=hL.out
     rw [if_pos (.inr hx21),<-ht.out] at b;replace b:=Hd b;go_wp2_with fail
     go_ret;exact ⟨t,rfl,b.out.symm,c.out⟩
    ·have b:=hL.out
     rw [if_neg (by omega)] at b;replace b:=Hd b;have hf:=p.out w2 q.out;rw [<-hre.out,<-hnb.out] at hf;replace hf:=Hd hf;go_wp2_with fail
     refine hf.out.mono ?_;rintro e w3 ⟨t3,rfl,s,ac⟩;have y:=c.out.trans (ac.mono c.out.size);replace s:=Hd s;go_wp2_with fail
     go_ret;exact ⟨t3,rfl,s.out.trans b.out.symm,y⟩
end Go.Proofs.YtagkgfniihiinaaGreatDoor
namespace Go.Proofs.YtagkgfniihiinaaGreatDoor
def B0 (r:Nat):List UInt8:=if r=9218868437227405312 then [105,110,102] else if expN r < -4\/21<=expN r then effE false (digL r) (Br r) else effF false (digL r) (Br r)
theorem effE_sign (neg:Bool) (D:List UInt8) (dp:Int):effE neg D dp=A7 neg++effE false D dp:=by unfold effE;simp [A7]
theorem effF_sign (neg:Bool) (D:List UInt8) (dp:Int):effF neg D dp=A7 neg++effF false D dp:=by unfold effF;simp [A7]
theorem Dc {n:Nat} (hn:nanF n=false):Bs n=A7 (decide (9223372036854775808<=n))++B0 (n % 9223372036854775808):=by
 by_cases h:n % 9223372036854775808=9218868437227405312
 ·rw [realL_inf hn h];unfold B0;rw [if_pos h]
 ·rw [realL_num hn h];unfold B0;rw [if_neg h]
  split
  ·exact effE_sign _ _ _
  ·exact effF_sign _ _ _
theorem nDig_le:∀k u:Nat,u<10 ^ (k+1)->Lib.nDigits u<=k+1
 | 0,u,h=>by rw [Lib.nDigits_small (by simpa using h)];exact Nat.le_refl _
 | k+1,u,h=>by
  by_cases h1:u<10
  ·rw [Lib.nDigits_small h1];omega
  ·rw [Lib.nDigits_big h1]
   have:=nDig_le k (u / 10) (by rw [Nat.pow_succ] at h;omega);omega
mutual
def V.ranged:V->Prop
 | .mk _ _ i r _ l=>-9223372036854775808<=i/\i<=9223372036854775807/\r<18446744073709551616/\V.rangedL l
def V.rangedL:List V->Prop
 | []=>True
 | x :: l=>V.ranged x/\V.rangedL l
end
theorem V.ranged_eq (v:V):v.ranged ↔ -9223372036854775808<=v.int/\v.int<=9223372036854775807/\v.real<18446744073709551616/\V.rangedL v.list:=by cases v;simp only [V.ranged,V.int,V.real,V.list]
theorem V.rangedL_mem {l:List V} (h:V.rangedL l):∀x∈l,x.ranged:=by
 induction l with
 | nil=>intro x hx;cases hx
 | cons y l ih=>
  intro x hx;rcases List.mem_cons.1 hx with rfl | hx
  ·exact h.1
  ·exact ih h.2 x hx
theorem rangedL_of {l:List V} (h:∀x∈l,x.ranged):V.rangedL l:=by
 induction l with
 | nil=>trivial
 | cons y l ih=>exact ⟨h y (by simp),ih fun x hx=>h x (by simp [hx])⟩
def tK:Nat:=400
theorem tK_is:tK=400:=rfl
def tT (q:Int):Nat:=10 ^ (q+tK).toNat * 2 ^ hp
theorem tT_add {q:Int} (h:-400<=q) (a:Nat):tT (q+a)=10 ^ a * tT q:=by
 have hk:=tK_is;unfold tT;rw [show (q+a+tK).toNat=a+(q+tK).toNat by omega,Nat.pow_add,Nat.mul_assoc]
theorem E3 {p q:Int} (p0:-400<=p) (q0:-400<=q):(∃a:Nat,tT p=10 ^ a * tT q/\p - q=(a:Int))\/∃a:Nat,1<=a/\tT q=10 ^ a * tT p/\q - p=(a:Int):=by
 rcases Int.lt_or_le p q with h | h
 ·obtain ⟨a,rfl⟩:∃a:Nat,q=p+a:=⟨(q - p).toNat,by omega⟩
  exact .inr ⟨a,by omega,tT_add p0 a,by omega⟩
 ·obtain ⟨a,rfl⟩:∃a:Nat,p=q+a:=⟨(p - q).toNat,by omega⟩
  exact .inl ⟨a,tT_add q0 a,by omega⟩
theorem size_l (s:ByteArray):s.size=s.data.toList.length:=by rw [Array.length_toList];rfl
theorem exp_head {X:List UInt8} {x:Int} (h:ExpAt X x):∀c l,X=c :: l->c=101:=by
 intro c l e;cases h with
 | none=>cases e
 | bare _ _=>cases e;rfl
 | plus _ _=>cases e;rfl
 | minus _ _=>cases e;rfl
theorem exp_okC {X:List UInt8} {x:Int} (h:ExpAt X x):∀b∈X,okC b:=by
 intro b hb;cases h with
 | none=>cases hb
 | bare _ hd=>
  rcases List.mem_cons.1 hb with rfl | hb
  ·exact .inr (.inr (.inl rfl))
  ·exact .inl (hd b hb)
 | plus _ hd=>
  rcases List.mem_cons.1 hb with rfl | hb
  ·exact .inr (.inr (.inl rfl))
  ·rcases List.mem_cons.1 hb with rfl | hb
   ·exact .inr (.inr (.inr (.inl rfl)))
   ·exact .inl (hd b hb)
 | minus _ hd=>
  rcases List.mem_cons.1 hb with rfl | hb
  ·exact .inr (.inr (.inl rfl))
  ·rcases List.mem_cons.1 hb with rfl | hb
   ·exact .inr (.inr (.inr (.inr rfl)))
   ·exact .inl (hd b hb)
def Cf (fr:Bool) (F:List UInt8):List UInt8:=if fr then 46 :: F else []
theorem scan_exp {X:List UInt8} {x:Int} (h:ExpAt X x) (d:Bool) (L:List UInt8) (m:Nat):Cg X d L m=(d,L,m,X):=by
 cases hx:X with
 | nil=>rfl
 | cons c l=>
  have:=exp_head h c l hx;subst this;rw [Cg,if_neg (by decide),if_neg (by decide)]
theorem scan_form {A F X:List UInt8} {fr:Bool} {x:Int} (hAd:∀c∈A,isD c=true) (hF:fr=false->F=[]) (hFd:∀c∈F,isD c=true) (hX:ExpAt X x) :
  Cg (A++(Cf fr F++X)) false [] 0=(fr,A++F,if fr then F.length else A.length,X):=by
 rw [En hAd,List.nil_append,Nat.zero_add];cases fr
 ·rw [hF rfl]
  show Cg X false A A.length=_;rw [scan_exp hX,List.append_nil];rfl
 ·show Cg (46 :: (F++X)) false A A.length=_
  rw [Cg,if_pos (by decide),if_neg (by decide),En hFd,scan_exp hX,Nat.zero_add];rfl
theorem txt_form {s:ByteArray} {A F X:List UInt8} {fr:Bool} {x:Int} {neg:Bool} (hs:s.data.toList=A7 neg++(A++(Cf fr F++X))) (hz:s.size<=1000) (hA:A≠[]) (hAd:∀c∈A,isD c=true) (hF:fr=false->F=[])
  (hFd:∀c∈F,isD c=true) (hX:ExpAt X x):FTxt s neg fr (A++F) (if fr then F.length else A.length) x/\∃c l,s.data.toList=(if neg then [45] else [])++c :: l/\isD c=true:=by
 cases hAe:A with
 | nil=>exact absurd hAe hA
 | cons c T=>
  have hc:=hAd c (by rw [hAe];exact List.mem_cons_self ..);have e:A++(Cf fr F++X)=c :: (T++(Cf fr F++X)):=by rw [hAe];rfl
  rw [<-hAe];refine ⟨⟨⟨c,T++(Cf fr F++X),X,?_,hc,?_,hX,?_⟩,hz,fun e=>hA (List.append_eq_nil_iff.1 e).1⟩,c,T++(Cf fr F++X),?_,hc⟩
  ·rw [hs,e];rfl
  ·rw [<-e];exact scan_form hAd hF hFd hX
  ·intro b hb
   rw [<-e] at hb;rcases List.mem_append.1 hb with hb | hb
   ·exact .inl (hAd b hb)
   ·rcases List.mem_append.1 hb with hb | hb
    ·unfold Cf at hb
     cases fr
     ·cases hb
     ·rcases List.mem_cons.1 hb with rfl | hb
      ·exact .inr (.inl rfl)
      ·exact .inl (hFd b hb)
    ·exact exp_okC hX b hb
  ·rw [hs,e];rfl
theorem exp_uniq {X:List UInt8} {x y:Int} (h:ExpAt X x) (h' : ExpAt X y):x=y:=by
 have nd:∀{E:List UInt8} {c:UInt8} {l:List UInt8},(∀b∈E,isD b=true)->E=c :: l->isD c=false->False:=fun hd e hc=>by
  rw [hd _ (by rw [e];exact List.mem_cons_self ..)] at hc;cases hc
 cases h with
 | none=>cases h'; rfl
 | @bare E hE hd=>
  generalize hX:(101 :: E:List UInt8)=Y at h';cases h' with
  | none=>cases hX
  | bare=>cases hX;rfl
  | plus=>cases hX;exact (nd hd rfl (by decide)).elim
  | minus=>cases hX;exact (nd hd rfl (by decide)).elim
 | @plus E hE hd=>
  generalize hX:(101 :: 43 :: E:List UInt8)=Y at h';cases h' with
  | none=>cases hX
  | bare _ hd2=>cases hX;exact (nd hd2 rfl (by decide)).elim
  | plus=>cases hX;rfl
  | minus=>cases hX
 | @minus E hE hd=>
  generalize hX:(101 :: 45 :: E:List UInt8)=Y at h';cases h' with
  | none=>cases hX
  | bare _ hd2=>cases hX;exact (nd hd2 rfl (by decide)).elim
  | plus=>cases hX
  | minus=>cases hX;rfl
theorem txt_uniq {s:ByteArray} {neg neg' d d' : Bool} {L L' : List UInt8} {m m' : Nat} {x x' : Int} (h:FTxt s neg d L m x) (h' : FTxt s neg' d' L' m' x'):neg=neg' /\ d=d' /\ L=L' /\ m=m' /\ x=x' := by
 obtain ⟨⟨c,b,r,h1,h2,h3,h4,_⟩,_,_⟩:=h;obtain ⟨⟨c', b', r', k1,k2,k3,k4,_⟩,_,_⟩:=h';have e:=h1.symm.trans k1;have a:∀{c:UInt8},isD c=true->c≠45:=fun hc e=>by subst e;exact absurd hc (by decide)
 have f:neg=neg' /\ c :: b=c' :: b' := by
  cases neg<;>cases neg'
  ·exact ⟨rfl,e⟩
  ·exact absurd (List.cons.inj e).1 (a h2)
  ·exact absurd (List.cons.inj e).1.symm (a k2)
  ·exact ⟨rfl,(List.cons.inj e).2⟩
 rw [f.2,k3] at h3;simp only [Prod.mk.injEq] at h3;obtain ⟨e1,e2,e3,e4⟩:=h3;rw [<-e4] at h4;exact ⟨f.1,e1.symm,e2.symm,e3.symm,exp_uniq h4 k4⟩
theorem decA_tens {d r:Nat}:∀(j:Nat) (p:Int),InI r (decA (d * 10 ^ j) p) (Aq p) ↔ InI r (decA d (p+j)) (Aq (p+j))
 | 0,p=>by simp
 | j+1,p=>by
  rw [Nat.pow_succ,<-Nat.mul_assoc,decA_ten,decA_tens j (1+p),show 1+p+(j:Int)=p+((j+1:Nat):Int) by omega]
theorem dig_spec {r:Nat} (h0:0<r) (hr:r<9218868437227405312):∃c T,digL r=c :: T/\c≠48/\(digL r).length<=18/\InI r (decA (valD (digL r)) (Br r - (digL r).length)) (Aq (Br r - (digL r).length))/\0<valD (digL r):=by
 obtain ⟨a,b,_,_⟩:=Ds h0 hr;have i:=short_ok h0 hr;unfold digL Br;rw [if_neg (by omega),if_neg (by omega)];obtain ⟨d,hd⟩:∃d,(A5 r).1=d:=⟨_,rfl⟩;obtain ⟨q,hq⟩:∃q,(A5 r).2=q:=⟨_,rfl⟩;rw [hd] at a b i ⊢;rw [hq] at i ⊢;obtain ⟨n,hn⟩:=Dy (Lib.decDigits d);have f:=congrArg List.length hn;rw [List.length_append,List.length_replicate,Lib.decDigits_length] at f;have g:d=valD (Aw (Lib.decDigits d)) * 10 ^ n:=by
  have h1:=stripZ_val (Lib.decDigits d);rw [El,Lib.decDigits_length,f,Nat.add_sub_cancel_left] at h1;exact h1
 have h18:Lib.nDigits d<=18:=nDig_le 17 d b;obtain ⟨c,l,hc,k⟩:=dec_head (u:=d) a;obtain ⟨D,hD⟩:∃D,Aw (Lib.decDigits d)=D:=⟨_,rfl⟩;rw [hD] at hn f g ⊢;have j:0<valD D:=by
  rcases Nat.eq_zero_or_pos (valD D) with h | h
  ·rw [h,Nat.zero_mul] at g;omega
  ·exact h
 cases D with
 | nil=>exact absurd j (by decide)
 | cons c2 T=>
  refine ⟨c2,T,rfl,?_,by omega,?_,j⟩
  ·rw [hn,List.cons_append] at hc
   rw [(List.cons.inj hc).1];exact k
  ·rw [g] at i
   have:=(decA_tens n q).1 i;have e:((Lib.nDigits d:Nat):Int)+q - ((c2 :: T).length:Nat)=q+(n:Int):=by omega
   rw [e];exact this
def topP (n:Nat):Nat:=1 * 10 ^ n * 2 ^ Go.Proofs.YtagkgfniihiinaaGreatDoor.hp
theorem mid_topP:mid 9218868437227405311<topP 311:=by decide +kernel
def lowP:Nat:=18446744073709551616 * 10 ^ 0 * 2 ^ Go.Proofs.YtagkgfniihiinaaGreatDoor.hp
def tenP (n:Nat):Nat:=10 ^ n
theorem low_topP:lowP<tenP 346:=by decide +kernel
theorem dec_low {d D:Nat} (hd:d<=D) (c:Nat) {n m:Nat} (h:n<=m):d * 10 ^ n * 2 ^ c<=D * 10 ^ m * 2 ^ c:=
 Nat.mul_le_mul_right _ (Nat.mul_le_mul hd (Nat.pow_le_pow_right (by decide) h))
theorem p_bounds {r d:Nat} {p:Int} (h0:0<r) (hr:r<9218868437227405312) (hd:0<d) (hd2:d<=18446744073709551616) (h:InI r (decA d p) (Aq p)):-345<=p/\p<=310:=by
 constructor
 ·rcases Int.lt_or_le p (-345) with h1 | h1
  ·exfalso
   obtain ⟨n,hn⟩:∃n:Nat,n=346:=⟨_,rfl⟩;have b:lowP<tenP n:=by rw [hn];exact low_topP
   have hb:tenP n<=Aq p:=Nat.pow_le_pow_right (by decide) (by omega);clear hn;have h2:mid (r - 1) * Aq p<=decA d p:=by
    rcases h.low with h | h | h
    ·omega
    ·exact Nat.le_of_lt h
    ·exact Nat.le_of_eq h.1
   have h3:1<=mid (r - 1):=by
    have:=mid_le (r:=0) (s:=r - 1) (Nat.zero_le _);exact Nat.le_trans (by decide +kernel) this
   have h4:Aq p<=mid (r - 1) * Aq p:=Nat.le_mul_of_pos_left _ h3;have h5:decA d p<=lowP:=dec_low hd2 Go.Proofs.YtagkgfniihiinaaGreatDoor.hp (by omega);exact absurd (Nat.le_trans hb (Nat.le_trans h4 (Nat.le_trans h2 h5))) (Nat.not_le.2 b)
  ·exact h1
 ·rcases Int.lt_or_le 310 p with h1 | h1
  ·exfalso
   have hb:Aq p=1:=by unfold Aq;rw [show (-p).toNat=0 by omega,Nat.pow_zero]
   have h2:decA d p<=mid r * Aq p:=by
    rcases h.high with h | h
    ·exact Nat.le_of_lt h
    ·exact Nat.le_of_eq h.1
   rw [hb,Nat.mul_one] at h2;have h3:mid r<=mid 9218868437227405311:=mid_le (by omega);obtain ⟨n,hn⟩:∃n:Nat,n=311:=⟨_,rfl⟩;have h6:mid 9218868437227405311<topP n:=by rw [hn];exact mid_topP
   have a:n<=p.toNat:=by omega
   have h5:topP n<=decA d p:=dec_low hd Go.Proofs.YtagkgfniihiinaaGreatDoor.hp a;clear hn;exact absurd (Nat.le_trans h5 (Nat.le_trans h2 h3)) (Nat.not_le.2 h6)
  ·exact h1
def eL (n:Nat):List UInt8:=if n<10 then [48,dg8 n] else if n<100 then [dg8 (n / 10),dg8 (n % 10)] else [dg8 (n / 100),dg8 (n / 10 % 10),dg8 (n % 10)]
def eOk (n:Nat):Bool:=!(eL n).isEmpty && (eL n).all isD && (capE (eL n) == n)
theorem exp_tab:allN 1000 eOk=true:=by decide +kernel
theorem expL_is (x:Int) (h:x.natAbs<1000):ExpAt (101 :: expL x) x:=by
 have a:=F4 exp_tab x.natAbs h;unfold eOk at a;rw [show expL x=(if x<0 then 45 else 43) :: eL x.natAbs from rfl];generalize eL x.natAbs=E at a ⊢;rw [Bool.and_eq_true,Bool.and_eq_true,beq_iff_eq,List.all_eq_true] at a;obtain ⟨⟨k0,k2⟩,k3⟩:=a;have k1:E≠[]:=fun e=>by rw [e] at k0;cases k0
 split
 ·have:=ExpAt.minus k1 k2
  rw [k3] at this;rw [show x=-((x.natAbs:Nat):Int) by omega];rw [show (-((x.natAbs:Nat):Int))=-((x.natAbs:Nat):Int) from rfl] at this;exact this
 ·have:=ExpAt.plus k1 k2
  rw [k3] at this;rw [show x=((x.natAbs:Nat):Int) by omega];exact this
theorem rep_dig (k:Nat):∀c∈List.replicate k (48:UInt8),isD c=true:=fun c hc=>by
 rw [List.eq_of_mem_replicate hc];decide
theorem valD_rep (k:Nat):valD (List.replicate k 48)=0:=valD_zeros fun c hc=>List.eq_of_mem_replicate hc
theorem mant_form {a k:Nat} {c:UInt8} {T:List UInt8} (hc:c≠48) (hl:(c :: T).length<=18) :
  ndF (List.replicate a 48++((c :: T)++List.replicate k 48))=(c :: T).length+k /\
  Av (List.replicate a 48++((c :: T)++List.replicate k 48))=valD (c :: T) * 10 ^ (min k (19 - (c :: T).length))/\Bd (List.replicate a 48++((c :: T)++List.replicate k 48))=false:=by
 have hs:A1 (List.replicate a 48++((c :: T)++List.replicate k 48))=(c :: T)++List.replicate k 48:=by
  induction a with
  | zero=>
   unfold A1;rw [List.replicate_zero,List.nil_append,List.cons_append,List.dropWhile_cons_of_neg (by simpa using hc)]
  | succ a ih=>
   unfold A1 at ih ⊢;rw [List.replicate_succ,List.cons_append,List.dropWhile_cons_of_pos (by rfl)];exact ih
 unfold ndF Av Bd;rw [hs];refine ⟨by rw [List.length_append,List.length_replicate],?_,?_⟩
 ·rw [List.take_append,List.take_of_length_le (by omega),List.take_replicate,Df,valD_rep,Nat.add_zero,List.length_replicate,Nat.min_comm]
 ·rw [List.drop_append,List.drop_of_length_le (by omega),List.nil_append,List.drop_replicate,List.any_eq_false]
  intro x hx;rw [List.eq_of_mem_replicate hx];decide
theorem read_form {r a k m:Nat} {c:UInt8} {T L:List UInt8} {fr:Bool} {x p:Int} (h0:0<r) (hr:r<9218868437227405312) (hc:c≠48) (hdig:∀b∈c :: T,isD b=true) (hl:(c :: T).length<=18)
  (hin:InI r (decA (valD (c :: T)) p) (Aq p)) (hv:0<valD (c :: T)) (hL:L=List.replicate a 48++((c :: T)++List.replicate k 48))
  (hx:(if fr then (((c :: T).length+k:Nat):Int) - m else (((c :: T).length+k:Nat):Int))+x=(c :: T).length+p) :
  0<Av L/\Av L<18446744073709551616/\Bd L=false/\-345<=expF fr L m x/\expF fr L m x<=310/\InI r (decA (Av L) (expF fr L m x)) (Aq (expF fr L m x)):=by
 obtain ⟨m1,m2,m3⟩:=mant_form (a:=a) (k:=k) hc hl;have e:∀b∈L,isD b=true:=fun b hb=>by
  rw [hL] at hb;rcases List.mem_append.1 hb with hb | hb
  ·exact rep_dig _ b hb
  ·rcases List.mem_append.1 hb with hb | hb
   ·exact hdig b hb
   ·exact rep_dig _ b hb
 have h19:=mantF_lt19 e;rw [<-hL] at m1 m2 m3;have d:0<Av L:=by rw [m2];exact Nat.mul_pos hv (Nat.pow_pos (by decide))
 have he:expF fr L m x+((min k (19 - (c :: T).length):Nat):Int)=p:=by
  unfold expF;rw [if_neg (by omega),m1];omega
 have hI:InI r (decA (Av L) (expF fr L m x)) (Aq (expF fr L m x)):=by
  rw [m2,decA_tens,he];exact hin
 obtain ⟨b1,b2⟩:=p_bounds h0 hr d (by omega) hI;exact ⟨d,by omega,m3,b1,b2,hI⟩
structure NumT (s:ByteArray) (neg:Bool) (r:Nat) (d:Bool) (L:List UInt8) (m:Nat) (x:Int):Prop where
 txt:FTxt s neg d L m x
 pos:0<Av L
 lt:Av L<18446744073709551616
 whole:Bd L=false
 low:-345<=expF d L m x
 high:expF d L m x<=310
 near:InI r (decA (Av L) (expF d L m x)) (Aq (expF d L m x))
 head:∃c l,s.data.toList=(if neg then [45] else [])++c :: l/\isD c=true
 parts:∃A F X fr y,s.data.toList=A7 neg++(A++(Cf fr F++X))/\A≠[]/\(∀c∈A,isD c=true)/\(fr=true->F≠[])/\(∀c∈F,isD c=true)/\ExpAt X y
theorem Gb {s:ByteArray} {A F X:List UInt8} {fr neg:Bool} {x p:Int} {r a k:Nat} {c:UInt8} {T:List UInt8} (h0:0<r) (hr:r<9218868437227405312) (hc:c≠48) (hdig:∀b∈c :: T,isD b=true) (hl:(c :: T).length<=18)
  (hin:InI r (decA (valD (c :: T)) p) (Aq p)) (hv:0<valD (c :: T)) (hs:s.data.toList=A7 neg++(A++(Cf fr F++X))) (hz:s.size<=1000) (hA:A≠[]) (hAd:∀c∈A,isD c=true) (hF:fr=true->F≠[]) (hF2:fr=false->F=[])
  (hFd:∀c∈F,isD c=true) (hX:ExpAt X x) (hL:A++F=List.replicate a 48++((c :: T)++List.replicate k 48))
  (hx:(if fr then (((c :: T).length+k:Nat):Int) - ((if fr then F.length else A.length:Nat):Int) else (((c :: T).length+k:Nat):Int))+x=(c :: T).length+p) :
  NumT s neg r fr (A++F) (if fr then F.length else A.length) x:=by
 obtain ⟨h1,h2⟩:=txt_form hs hz hA hAd hF2 hFd hX;obtain ⟨m1,m2,m3,m4,m5,m6⟩:=read_form (fr:=fr) (m:=if fr then F.length else A.length) (x:=x) h0 hr hc hdig hl hin hv hL hx;exact ⟨h1,m1,m2,m3,m4,m5,m6,h2,A,F,X,fr,x,hs,hA,hAd,hF,hFd,hX⟩
theorem Cv {s:ByteArray} {neg:Bool} {r:Nat} (h0:0<r) (hr:r<9218868437227405312) (hs:s.data.toList=A7 neg++B0 r):s.size<=25/\∃d L m x,NumT s neg r d L m x:=by
 obtain ⟨c,T,hD,hc,hl,g,hv⟩:=dig_spec h0 hr;have e:=digL_isD r;obtain ⟨b1,b2⟩:=point_bounds hr;have hsg:(A7 neg).length<=1:=by unfold A7;split<;>simp
 have f:s.size=(A7 neg).length+(B0 r).length:=by rw [size_l,hs,List.length_append]
 unfold B0 at hs f;have i:digL r≠[]:=by rw [hD];simp
 have j:expN r=Br r - 1:=by unfold expN;rw [if_neg i]
 rw [if_neg (by omega),j] at hs f;obtain ⟨dp,hdp⟩:∃dp,Br r=dp:=⟨_,rfl⟩;rw [hdp] at hs f g b1 b2;rw [hD] at hs f g e hl hv;clear hD i j hdp;have n:(c :: T).length=T.length+1:=rfl;by_cases he:dp - 1 < -4\/21<=dp - 1
 ·rw [if_pos he] at hs f
  have hE:effE false (c :: T) dp=[c]++(Cf (decide (1<(c :: T).length)) T++(101 :: expL (dp - 1))):=by
   unfold effE Cf;rw [if_neg (List.cons_ne_nil c T)];by_cases h1:1<(c :: T).length
   ·rw [if_pos h1,if_pos (decide_eq_true h1)]
    simp [A7]
   ·rw [if_neg h1,if_neg (by simpa using h1)]
    simp [A7]
  rw [hE] at hs f;have hel:=expL_len (dp - 1);have hz:s.size<=25:=by
   rw [f];unfold Cf;split<;>simp only [List.length_append,List.length_cons,List.length_nil]<;>omega
  refine ⟨hz,_,_,_,_,Gb (fr:=decide (1<(c :: T).length)) (a:=0) (k:=0) (A:=[c]) (F:=T) (x:=dp - 1) h0 hr hc e hl g hv hs (by omega) (by simp) ?_ ?_ ?_ ?_ (expL_is _ (by omega)) (by simp) ?_⟩
  ·intro b hb
   rw [List.mem_singleton] at hb;subst hb;exact e _ (List.mem_cons_self ..)
  ·intro h1 h2
   have:=of_decide_eq_true h1;rw [h2] at this;simp at this
  ·intro h1
   have:=of_decide_eq_false h1;cases T with
   | nil=>rfl
   | cons a l=>simp at this
  ·exact fun b hb=>e b (List.mem_cons_of_mem _ hb)
  ·by_cases h1:1<(c :: T).length
   ·rw [decide_eq_true h1,if_pos rfl,if_pos rfl];omega
   ·rw [decide_eq_false h1,if_neg (by decide)];omega
 ·rw [if_neg he] at hs f
  rcases Int.lt_or_le 0 dp with hp | hp
  ·rcases Int.lt_or_le dp (c :: T).length with hq | hq
   ·have hF:effF false (c :: T) dp=(c :: T).take dp.toNat++(Cf true ((c :: T).drop dp.toNat)++[]):=by
     unfold effF Cf;rw [if_pos hp,if_pos hq,if_pos rfl,show dp.toNat - (c :: T).length=0 by omega,show (-dp).toNat=0 by omega];simp [A7]
    rw [hF] at hs f;have hz:s.size<=25:=by
     rw [f];unfold Cf;rw [if_pos rfl,List.length_append,List.length_append,List.length_cons,List.length_take,List.length_drop,List.length_nil];omega
    refine ⟨hz,_,_,_,_,Gb (fr:=true) (a:=0) (k:=0) (x:=0) h0 hr hc e hl g hv hs (by omega) ?_ (fun b hb=>e b (List.mem_of_mem_take hb)) ?_ (fun h=>by cases h) (fun b hb=>e b (List.mem_of_mem_drop hb)) .none ?_ ?_⟩
    ·intro h
     have:=congrArg List.length h;rw [List.length_take,List.length_nil] at this;omega
    ·intro _ h
     have:=congrArg List.length h;rw [List.length_drop,List.length_nil] at this;omega
    ·rw [List.take_append_drop];simp
    ·rw [if_pos rfl,if_pos rfl,List.length_drop];omega
   ·have hF:effF false (c :: T) dp=((c :: T)++List.replicate (dp.toNat - (c :: T).length) 48)++(Cf false []++[]):=by
     unfold effF Cf;rw [if_pos hp,if_neg (by omega),if_neg (by decide),List.take_of_length_le (by omega)];simp [A7]
    rw [hF] at hs f;have hz:s.size<=25:=by
     rw [f];unfold Cf;rw [if_neg (by decide),List.length_append,List.length_append,List.length_append,List.length_replicate,List.length_nil];omega
    refine ⟨hz,_,_,_,_,Gb (fr:=false) (a:=0) (k:=dp.toNat - (c :: T).length) (x:=0) h0 hr hc e hl g hv hs (by omega) (by simp) ?_ (fun h=>by cases h) (fun _=>rfl) (fun b hb=>by cases hb) .none ?_ ?_⟩
    ·intro b hb
     rcases List.mem_append.1 hb with hb | hb
     ·exact e b hb
     ·exact rep_dig _ b hb
    ·simp
    ·rw [if_neg (by decide)];omega
  ·have hF:effF false (c :: T) dp=[48]++(Cf true (List.replicate (-dp).toNat 48++(c :: T))++[]):=by
    unfold effF Cf;rw [if_neg (by omega),if_pos (by omega),if_pos rfl,show dp.toNat=0 by omega];simp [A7]
   rw [hF] at hs f;have hz:s.size<=25:=by
    rw [f];unfold Cf;rw [if_pos rfl];simp only [List.length_append,List.length_cons,List.length_replicate,List.length_nil];simp only [List.length_cons] at n hl;omega
   refine ⟨hz,_,_,_,_,Gb (fr:=true) (a:=(-dp).toNat+1) (k:=0) (x:=0) h0 hr hc e hl g hv hs (by omega) (by simp) ?_ (fun _=>by simp) (fun h=>by cases h) ?_ .none ?_ ?_⟩
   ·intro b hb
    rw [List.mem_singleton] at hb;subst hb;decide
   ·intro b hb
    rcases List.mem_append.1 hb with hb | hb
    ·exact rep_dig _ b hb
    ·exact e b hb
   ·rw [List.replicate_succ];simp
   ·rw [if_pos rfl,if_pos rfl,List.length_append,List.length_replicate];omega
theorem Dx:B0 0=[48]:=by decide +kernel
theorem txt_eq {s:ByteArray} {l:List UInt8} (h:s.data.toList=l):s=⟨l.toArray⟩:=ByteArray.ext (Array.toList_inj.1 h)
theorem word_split (n:Nat) (h:n<18446744073709551616):n=(if decide (9223372036854775808<=n)=true then 9223372036854775808 else 0)+n % 9223372036854775808:=by
 by_cases h1:9223372036854775808<=n
 ·rw [decide_eq_true h1,if_pos rfl];omega
 ·rw [decide_eq_false h1,if_neg (by decide)];omega
theorem Fw {r:Nat} (h:r<=9218868437227405312):∃c l,B0 r=c :: l/\(r=9218868437227405312->c=105)/\(r≠9218868437227405312->isD c=true):=by
 by_cases h1:r=9218868437227405312
 ·exact ⟨105,[110,102],by unfold B0;rw [if_pos h1],fun _=>rfl,fun h=>absurd h1 h⟩
 ·rcases Nat.eq_zero_or_pos r with h0 | h0
  ·subst h0
   exact ⟨48,[],Dx,fun h=>absurd h h1,fun _=>by decide⟩
  ·obtain ⟨_,d,L,m,x,hR⟩:=Cv (s:=⟨(B0 r).toArray⟩) (neg:=false) h0 (by omega) rfl
   obtain ⟨c,l,h3,h4⟩:=hR.head;exact ⟨c,l,h3,fun h=>absurd h h1,fun _=>h4⟩
theorem bare_inj {r q:Nat} (hr:r<=9218868437227405312) (hq:q<=9218868437227405312) (h:B0 r=B0 q):r=q:=by
 have hz:∀r,0<r->r<9218868437227405312->B0 r=B0 0->False:=fun r h0 h1 h=>by
  obtain ⟨_,d,L,m,x,hR⟩:=Cv (s:=⟨(B0 r).toArray⟩) (neg:=false) h0 h1 rfl;have ht:=hR.txt
  have hf:=(txt_form (s:=⟨(B0 r).toArray⟩) (A:=[48]) (F:=[]) (X:=[]) (fr:=false) (x:=0) (neg:=false) (by show B0 r=[48];rw [h,Dx]) (by rw [h,Dx];decide) (by simp)
   (fun c hc=>by rw [List.mem_singleton.1 hc];decide) (fun _=>rfl) (fun c hc=>by cases hc) .none).1
  have hu:=(txt_uniq ht hf).2.2.1;have hp:=hR.pos;rw [hu] at hp;exact absurd hp (by decide +kernel)
 obtain ⟨c,l,e1,i1,d1⟩:=Fw hr;obtain ⟨c', l', e2,i2,d2⟩:=Fw hq;have a:c=c' := by rw [e1,e2] at h;exact (List.cons.inj h).1
 by_cases h1:r=9218868437227405312
 ·by_cases h2:q=9218868437227405312
  ·rw [h1,h2]
  ·have:=d2 h2
   rw [<-a,i1 h1] at this;exact absurd this (by decide)
 ·by_cases h2:q=9218868437227405312
  ·have:=d1 h1
   rw [a,i2 h2] at this;exact absurd this (by decide)
  ·rcases Nat.eq_zero_or_pos r with h3 | h3
   ·rcases Nat.eq_zero_or_pos q with h4 | h4
    ·rw [h3,h4]
    ·rw [h3] at h;exact (hz q h4 (by omega) h.symm).elim
   ·rcases Nat.eq_zero_or_pos q with h4 | h4
    ·rw [h4] at h;exact (hz r h3 (by omega) h).elim
    ·obtain ⟨_,d,L,m,x,hR⟩:=Cv (s:=⟨(B0 r).toArray⟩) (neg:=false) h3 (by omega) rfl
     obtain ⟨_,d', L', m', x', hQ⟩:=Cv (s:=⟨(B0 r).toArray⟩) (neg:=false) h4 (by omega) h;obtain ⟨_,rfl,rfl,rfl,rfl⟩:=txt_uniq hR.txt hQ.txt;exact hR.near.uniq (Nat.pow_pos (by decide)) hQ.near
theorem De {n:Nat} (h:nanF n=false):n % 9223372036854775808<=9218868437227405312:=by
 unfold nanF at h;have:=of_decide_eq_false h;omega
theorem text_inj {a b:Nat} (ha:a<18446744073709551616) (hb:b<18446744073709551616) (h:Bs a=Bs b):Cp a=Cp b:=by
 have f:∀{a b:Nat},nanF a=true->nanF b=false->Bs a=Bs b->False:=fun {a b} h1 h2 h=>by
  rw [Eo h1,Dc h2] at h;obtain ⟨c,l,e,i,d⟩:=Fw (De h2);rw [e] at h;by_cases hs:9223372036854775808<=b
  ·rw [decide_eq_true hs] at h
   exact absurd (List.cons.inj h).1 (by decide)
  ·rw [decide_eq_false hs] at h
   have hc:(110:UInt8)=c:=(List.cons.inj h).1;by_cases hi:b % 9223372036854775808=9218868437227405312
   ·rw [i hi] at hc;exact absurd hc (by decide)
   ·have:=d hi
    rw [<-hc] at this;exact absurd this (by decide)
 cases na:nanF a with
 | true=>
  cases nb:nanF b with
  | true=>rw [(canon_nan a).2 na,(canon_nan b).2 nb]
  | false=>exact (f na nb h).elim
 | false=>
  cases nb:nanF b with
  | true=>exact (f nb na h.symm).elim
  | false=>
   rw [Dc na,Dc nb] at h;obtain ⟨c,l,e1,i1,d1⟩:=Fw (De na);obtain ⟨c', l', e2,i2,d2⟩:=Fw (De nb);have m:c≠45:=fun e=>by
    by_cases hi:a % 9223372036854775808=9218868437227405312
    ·rw [i1 hi] at e;exact absurd e (by decide)
    ·have:=d1 hi
     rw [e] at this;exact absurd this (by decide)
   have g : c' ≠ 45:=fun e=>by
    by_cases hi:b % 9223372036854775808=9218868437227405312
    ·rw [i2 hi] at e;exact absurd e (by decide)
    ·have:=d2 hi
     rw [e] at this;exact absurd this (by decide)
   have j:=word_split a ha;have k:=word_split b hb;have ca:Cp a=a:=by unfold Cp;rw [na];rfl
   have cb:Cp b=b:=by unfold Cp;rw [nb];rfl
   rw [ca,cb,j,k];have hr:=De na;have hq:=De nb;clear j k ca cb na nb;generalize a % 9223372036854775808=r at *;generalize b % 9223372036854775808=q at *;generalize decide (9223372036854775808<=a)=sa at *;generalize decide (9223372036854775808<=b)=sb at *;cases sa<;>cases sb
   ·rw [bare_inj hr hq h]
   ·rw [e1] at h;exact absurd (List.cons.inj h).1 m
   ·rw [e2] at h;exact absurd (List.cons.inj h).1.symm g
   ·rw [bare_inj hr hq (List.cons.inj h).2]
theorem text_len {n:Nat} (h:n<18446744073709551616):(Bs n).length<=25:=by
 cases hnan:nanF n with
 | true=>rw [Eo hnan];decide
 | false=>
  rw [Dc hnan];have hb:=De hnan;have hl:(A7 (decide (9223372036854775808<=n))).length<=1:=by unfold A7;split<;>simp
  rcases Nat.eq_or_lt_of_le hb with h1 | h1
  ·rw [h1,List.length_append,show (B0 9218868437227405312).length=3 from by unfold B0;rw [if_pos rfl];rfl];omega
  ·rcases Nat.eq_zero_or_pos (n % 9223372036854775808) with h0 | h0
   ·rw [h0,Dx,List.length_append]
    simp;omega
   ·obtain ⟨hz,_⟩:=Cv (s:=⟨(A7 (decide (9223372036854775808<=n))++B0 (n % 9223372036854775808)).toArray⟩) h0 h1 rfl
    exact hz
