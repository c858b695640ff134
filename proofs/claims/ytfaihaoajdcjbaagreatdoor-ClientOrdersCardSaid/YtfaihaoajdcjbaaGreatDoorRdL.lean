/- The reader: the next line. -/
import Derived.Test.YtfaihaoajdcjbaaGreatDoorRdW
import Derived.Test.YtfaihaoajdcjbaaGreatDoorJ8
import Derived.Test.YtfaihaoajdcjbaaGreatDoorJ14
import Derived.Lib.SlBytesRow
import Derived.Lib.IndexLaws
import Derived.Lib.ConvBytes
import Derived.Deep.DeepCutAuto
import Derived.Deep.CutBlock
set_option linter.all false
namespace Go.Proofs.YtfaihaoajdcjbaaGreatDoor
open Go.RowKit
inductive Out (α:Type) where
 | stop (e:Nat)
 | got (x:α)
def Bp (L:List UInt8):Out (List UInt8 × Nat):=
 let R:=L.take 4200
 let n:=Lib.indexByte R 10
 let b:=Lib.indexByte R 13
 if n=0\/(0<n/\b≠n - 1)\/(n<0/\0<=b/\b<R.length - 1)\/(n<0/\R.length=4200) then .stop 51
 else if n<0 then .stop 0 else .got (R.take (n - 1).toNat,(n+1).toNat)
theorem A2:∀(l:List UInt8) (c:UInt8),Lib.indexByte l c<l.length\/l=[]
 | [],_=>.inr rfl
 | b :: l,c=>by
   left;unfold Lib.indexByte;have h:=A2 l c;have h1:=Lib.indexByte_ge l c;rw [List.length_cons];split
   · omega
   · split
     · omega
     · rename_i h2
       rcases h with h | h
       · omega
       · subst h
         exact absurd (by rfl:(Lib.indexByte [] c == -1)=true) h2
structure Scan (w:World) (g b o n cap:Nat) (s:ByteArray) (at_ many:Nat):Prop where
 c0:w.cell? ⟨g,0,none⟩=some (.slice (some ⟨b,o,none⟩) n cap)
 c1:w.cell? ⟨g,1,none⟩=some (.int .i64 (at_:Int))
 c2:w.cell? ⟨g,2,none⟩=some (.int .i64 (many:Int))
 blk:Blk w g
 bytes:Lib.Bytes w b o s
 size:s.size=n
 ne:b≠g
 room:n<=cap
 big:n<=1000000000
theorem Scan.fr {w w' : World} {g b o n cap:Nat} {s:ByteArray} {at_ many:Nat} (h:Scan w g b o n cap s at_ many) {S:Nat->Prop} (hf:Fr S w w') (hg:¬S g) (hb:¬S b):Scan w' g b o n cap s at_ many:=
 ⟨hf.cell h.c0 hg,hf.cell h.c1 hg,hf.cell h.c2 hg,h.blk.fr hf hg,fun i hi=>hf.cell (h.bytes i hi) hb,h.size,h.ne,h.room,h.big⟩
theorem add_r (b o j:Nat):(⟨b,o,none⟩:Addr).add j=⟨b,o+j,none⟩:=by
 unfold Addr.add;split<;>simp_all
theorem Scan.move {w:World} {g b o n cap:Nat} {s:ByteArray} {at_ many:Nat} (h:Scan w g b o n cap s at_ many) (k:Nat):Scan (w.setCell ⟨g,1,none⟩ (.int .i64 (k:Int))) g b o n cap s k many:=
 ⟨by rw [Ab (by simp)];exact h.c0,Af h.c1,by rw [Ab (by simp)];exact h.c2,h.blk.setCell _ _,fun i hi=>by
   rw [Ab (fun e=>h.ne (congrArg Addr.block e).symm)];exact h.bytes i hi,h.size,h.ne,h.room,h.big⟩
theorem Scan.count {w:World} {g b o n cap:Nat} {s:ByteArray} {at_ many:Nat} (h:Scan w g b o n cap s at_ many) (k:Nat):Scan (w.setCell ⟨g,2,none⟩ (.int .i64 (k:Int))) g b o n cap s at_ k:=
 ⟨by rw [Ab (by simp)];exact h.c0,by rw [Ab (by simp)];exact h.c1,Af h.c2,h.blk.setCell _ _,fun i hi=>by
   rw [Ab (fun e=>h.ne (congrArg Addr.block e).symm)];exact h.bytes i hi,h.size,h.ne,h.room,h.big⟩
theorem A3 {w w' : World} {b o:Nat} {s:ByteArray} (h:Lib.Bytes w b o s) (hb:Below w.heap.size w w'):Lib.Bytes w' b o s:=fun i hi=>by
 rw [hb.cell (World.block_lt_of_cell? _ _ (h i hi))];exact h i hi
theorem Am (s:ByteArray):s.size=s.data.toList.length:=by rw [Array.length_toList];rfl
theorem Scan.rest {w:World} {g b o n cap:Nat} {s:ByteArray} {at_ many:Nat} (h:Scan w g b o n cap s at_ many) (hat:at_<=n) :
   ∃o2,((cap=at_/\o2=o)\/(¬cap=at_/\o2=o+at_))/\∀j,j<n - at_->w.cell? ⟨b,o2+j,none⟩=some (.int .u8 ((s.data.toList.getD (at_+j) 0).toNat:Int)):=by
 have hr:=h.room;have hz:=h.size;by_cases hc:cap=at_
 · exact ⟨o,.inl ⟨hc,rfl⟩,fun j hj=>by omega⟩
 · refine ⟨o+at_,.inr ⟨hc,rfl⟩,fun j hj=>?_⟩
   have h1:=h.bytes (at_+j) (by omega);rw [show o+at_+j=o+(at_+j) by omega,h1];congr 3;rw [List.getD_eq_getElem?_getD,Lib.data_getElem? s (at_+j) (by omega)];rfl
theorem Ek {w:World} {b o2 n at_ m:Nat} {s:ByteArray} (hz:s.size=n) (hat:at_<=n) (hb:∀j,j<n - at_->w.cell? ⟨b,o2+j,none⟩=some (.int .u8 ((s.data.toList.getD (at_+j) 0).toNat:Int))) (hm:m=min (n - at_) 4200) :
   ∃R:ByteArray,R.data.toList=(s.data.toList.drop at_).take 4200/\m=R.size/\Lib.Bytes w b o2 R:=by
 have hl:=Am s;have hlen:((s.data.toList.drop at_).take 4200).length=m:=by rw [List.length_take,List.length_drop];omega
 refine ⟨⟨((s.data.toList.drop at_).take 4200).toArray⟩,rfl,by rw [Am];exact hlen.symm,fun i hi=>?_⟩;have hi2:i<m:=by
   rw [Am] at hi;exact hlen ▸ hi
 rw [hb i (by omega)];congr 3;have e:=Lib.data_getElem? (⟨((s.data.toList.drop at_).take 4200).toArray⟩:ByteArray) i hi;have e2:(⟨((s.data.toList.drop at_).take 4200).toArray⟩:ByteArray).data.toList=(s.data.toList.drop at_).take 4200:=rfl;rw [e2,List.getElem?_take,if_pos (by omega),List.getElem?_drop] at e;rw [List.getD_eq_getElem?_getD,e];rfl
set_option maxRecDepth 100000 in
set_option maxHeartbeats 3200000 in
theorem line_bad {w:World} {g b o n cap at_ many:Nat} {s:ByteArray} (h:Scan w g b o n cap s at_ many) (hat:at_<=n) (hz:Bp (s.data.toList.drop at_)=.stop 51) :
   Calls Tryz.prog 101 #[.pointer (some ⟨g,0,none⟩)] w fun e w' => e=Bf 51/\Below w.heap.size w w' := by
 have c0:=h.c0;have c1:=h.c1;have hcap:=h.room;have hbig:=h.big;have hgl:=h.blk.lt;have hai:(at_:Int)<=(n:Int):=by omega
 obtain ⟨o2,ho2,hby⟩:=h.rest hat;obtain ⟨m,hm⟩:∃m,m=min (n - at_) 4200:=⟨_,rfl⟩;have hmin:min ((n - at_:Nat):Int) 4200=(m:Int):=by omega
 have hmn:(m:Int)<=((n - at_:Nat):Int):=by omega
 have hmn2:m<=n - at_:=by omega
 obtain ⟨R,hR,hRz,hRb⟩:=Ek (w:=w) (b:=b) (o2:=o2) (s:=s) (at_:=at_) (n:=n) h.size hat hby hm;subst hRz;obtain ⟨N,hN⟩:∃N,N=Lib.indexByte R.data.toList 10:=⟨_,rfl⟩;obtain ⟨K,hK⟩:∃K,K=Lib.indexByte R.data.toList 13:=⟨_,rfl⟩;have i1:=fun w' (hb:Below w.heap.size w w')=>Tryz.bytes_IndexByte_bytes b o2 (cap - at_) R 10 w' (A3 hRb hb);have i2:=fun w' (hb:Below w.heap.size w w')=>Tryz.bytes_IndexByte_bytes b o2 (cap - at_) R 13 w' (A3 hRb hb);rw [show ((10:Int).toNat.toUInt8)=10 by rfl,<-hN] at i1;rw [show ((13:Int).toNat.toUInt8)=13 by rfl,<-hK] at i2;unfold Bp at hz;rw [<-hR] at hz;dsimp only at hz;rw [<-hN,<-hK,<-Am R] at hz;have hNl:=Lib.indexByte_ge R.data.toList 10;have hNu:=A2 R.data.toList 10;have hKl:=Lib.indexByte_ge R.data.toList 13;rw [<-hN] at hNl hNu;rw [<-hK] at hKl;rw [<-Am R] at hNu;have hN9:N<(R.size:Int)\/(N<0/\R.size=0):=by
   rcases hNu with h | h
   · exact .inl h
   · refine .inr ⟨?_,by rw [Am,h];rfl⟩
     rw [hN,h];decide
 have hRs:R.size<=4200:=by omega
 have hKu:=A2 R.data.toList 13;rw [<-hK,<-Am R] at hKu;have hK9:K<(R.size:Int)\/(K<0/\R.size=0):=by
   rcases hKu with h | h
   · exact .inl h
   · refine .inr ⟨?_,by rw [Am,h];rfl⟩
     rw [hK,h];decide
 replace hKu:=Hd hKu;replace hby:=Hd hby;replace hRb:=Hd hRb;replace hR:=Hd hR;replace hm:=Hd hm;replace hN:=Hd hN;replace hK:=Hd hK;replace i1:=Hd i1;replace i2:=Hd i2;replace hz:=Hd hz;replace h:=Hd h;replace hNu:=Hd hNu;have hcase:(N=0)\/(0<N/\K≠N - 1)\/(N<0/\0<=K/\K<(R.size:Int) - 1)\/(N<0/\K<0/\(R.size:Int)=4200)\/(N<0/\0<=K/\¬K<(R.size:Int) - 1/\(R.size:Int)=4200):=by
   have hz:=hz.out;split at hz
   · omega
   · split at hz<;>cases hz
 replace hcase:=Hd hcase;rcases ho2 with ⟨hc,rfl⟩ | ⟨hc,rfl⟩
 · exfalso
   have h0:R.size=0:=by omega
   rcases hcase.out with q | q | q | q | q<;>omega
 · go_enter Tryz.func101,Tryz.ntmps101
   go_wp2_with fail
   refine Ad (by kernel_rfl) (by kernel_rfl) ?_;repeat (go_big_quiet_step ((fail)))
   refine wpQuiet_nil ?_;rintro _ ⟨xq,rfl⟩;have hS:=Ag w xq;obtain ⟨W2,hW2⟩:∃W2,W2=grow w xq:=⟨_,rfl⟩;rw [<-hW2] at hS ⊢;replace hW2:=Hd hW2;replace hS:=Hd hS;have hgl2:g<W2.heap.size:=Nat.lt_of_lt_of_le hgl hS.out.size;clear c0 c1;go_wp2_with fail
   refine (i1.out W2 hS.out).mono ?_;rintro e w' ⟨rfl,hww⟩;obtain rfl:=hww.symm;clear hww;go_wp2_with fail
   refine (i2.out W2 hS.out).mono ?_;rintro e w' ⟨rfl,hww⟩;obtain rfl:=hww.symm;clear hww;rcases hcase.out with q | ⟨q,q2⟩ | ⟨q,q2,q3⟩ | ⟨q,q2,q3⟩ | ⟨q,q2,q3,q4⟩
   · subst q
     go_wp2_with fail
     refine (Au _).mono ?_;rintro e w' ⟨rfl,hww⟩;obtain rfl:=hww.symm;clear hww;exact ⟨rfl,rfl,hS.out⟩
   · have y1:(N == 0)=false:=by simp;omega
     have y2:(K != N - 1)=true:=by simpa using q2
     replace q2:=Hd q2;go_wp2_with fail
     refine (Au _).mono ?_;rintro e w' ⟨rfl,hww⟩;obtain rfl:=hww.symm;clear hww;exact ⟨rfl,rfl,hS.out⟩
   · have y1:(N == 0)=false:=by simp;omega
     have y2:¬0<N:=by omega
     go_wp2_with fail
     refine (Au _).mono ?_;rintro e w' ⟨rfl,hww⟩;obtain rfl:=hww.symm;clear hww;exact ⟨rfl,rfl,hS.out⟩
   · have y1:(N == 0)=false:=by simp;omega
     have y2:¬0<N:=by omega
     have y3:¬0<=K:=by omega
     have y4:((R.size:Int) == 4200)=true:=by simpa using q3
     replace q3:=Hd q3;go_wp2_with fail
     refine (Au _).mono ?_;rintro e w' ⟨rfl,hww⟩;obtain rfl:=hww.symm;clear hww;exact ⟨rfl,rfl,hS.out⟩
   · have y1:(N == 0)=false:=by simp;omega
     have y2:¬0<N:=by omega
     have y4:((R.size:Int) == 4200)=true:=by simpa using q4
     replace q4:=Hd q4;go_wp2_with fail
     refine (Au _).mono ?_;rintro e w' ⟨rfl,hww⟩;obtain rfl:=hww.symm;clear hww;exact ⟨rfl,rfl,hS.out⟩
set_option maxRecDepth 100000 in
set_option maxHeartbeats 3200000 in
theorem line_short {w:World} {g b o n cap at_ many:Nat} {s:ByteArray} (h:Scan w g b o n cap s at_ many) (hat:at_<=n) (hz:Bp (s.data.toList.drop at_)=.stop 0) :
   Calls Tryz.prog 101 #[.pointer (some ⟨g,0,none⟩)] w fun e w' => e=Bf 0/\Below w.heap.size w w' := by
 have c0:=h.c0;have c1:=h.c1;have hcap:=h.room;have hbig:=h.big;have hgl:=h.blk.lt;have hai:(at_:Int)<=(n:Int):=by omega
 obtain ⟨o2,ho2,hby⟩:=h.rest hat;obtain ⟨m,hm⟩:∃m,m=min (n - at_) 4200:=⟨_,rfl⟩;have hmin:min ((n - at_:Nat):Int) 4200=(m:Int):=by omega
 have hmn:(m:Int)<=((n - at_:Nat):Int):=by omega
 have hmn2:m<=n - at_:=by omega
 obtain ⟨R,hR,hRz,hRb⟩:=Ek (w:=w) (b:=b) (o2:=o2) (s:=s) (at_:=at_) (n:=n) h.size hat hby hm;subst hRz;obtain ⟨N,hN⟩:∃N,N=Lib.indexByte R.data.toList 10:=⟨_,rfl⟩;obtain ⟨K,hK⟩:∃K,K=Lib.indexByte R.data.toList 13:=⟨_,rfl⟩;have i1:=fun w' (hb:Below w.heap.size w w')=>Tryz.bytes_IndexByte_bytes b o2 (cap - at_) R 10 w' (A3 hRb hb);have i2:=fun w' (hb:Below w.heap.size w w')=>Tryz.bytes_IndexByte_bytes b o2 (cap - at_) R 13 w' (A3 hRb hb);rw [show ((10:Int).toNat.toUInt8)=10 by rfl,<-hN] at i1;rw [show ((13:Int).toNat.toUInt8)=13 by rfl,<-hK] at i2;unfold Bp at hz;rw [<-hR] at hz;dsimp only at hz;rw [<-hN,<-hK,<-Am R] at hz;have hNl:=Lib.indexByte_ge R.data.toList 10;have hNu:=A2 R.data.toList 10;have hKl:=Lib.indexByte_ge R.data.toList 13;rw [<-hN] at hNl hNu;rw [<-hK] at hKl;rw [<-Am R] at hNu;have hN9:N<(R.size:Int)\/(N<0/\R.size=0):=by
   rcases hNu with h | h
   · exact .inl h
   · refine .inr ⟨?_,by rw [Am,h];rfl⟩
     rw [hN,h];decide
 have hRs:R.size<=4200:=by omega
 have hKu:=A2 R.data.toList 13;rw [<-hK,<-Am R] at hKu;have hK9:K<(R.size:Int)\/(K<0/\R.size=0):=by
   rcases hKu with h | h
   · exact .inl h
   · refine .inr ⟨?_,by rw [Am,h];rfl⟩
     rw [hK,h];decide
 replace hKu:=Hd hKu;replace hby:=Hd hby;replace hRb:=Hd hRb;replace hR:=Hd hR;replace hm:=Hd hm;replace hN:=Hd hN;replace hK:=Hd hK;replace i1:=Hd i1;replace i2:=Hd i2;replace hz:=Hd hz;replace h:=Hd h;replace hNu:=Hd hNu;have hcase:(N<0/\K<0/\(R.size:Int)≠4200)\/(N<0/\0<=K/\¬K<(R.size:Int) - 1/\(R.size:Int)≠4200):=by
   have hz:=hz.out;split at hz
   · cases hz
   · split at hz
     · omega
     · cases hz
 replace hcase:=Hd hcase;rcases ho2 with ⟨hc,rfl⟩ | ⟨hc,rfl⟩
 · have hRe:R=⟨#[]⟩:=by
     have h0:R.size=0:=by omega
     exact ByteArray.ext (Array.eq_empty_of_size_eq_zero h0)
   have hN1:N=-1:=by rw [hN.out,hRe];rfl
   have hK1:K=-1:=by rw [hK.out,hRe];rfl
   subst hN1;subst hK1;subst hRe;have hnc:n=at_:=by have:(⟨#[]⟩:ByteArray).size=0:=rfl;omega
   have hmin0:min (0:Int) 4200=0:=by decide
   subst hc;subst hnc;clear hmin hmn hmn2 hNl hNu hKl hN9 hK9 hRs hKu hai hcap i1 i2;have i1:∀w', Below w.heap.size w w' -> Calls Tryz.prog 122 #[.slice (some ⟨b,o2,none⟩) 0 0,.int .u8 10] w' fun e w'' => e=.returned (.int .i64 (-1))/\w'' = w' := fun w' _=>Tryz.bytes_IndexByte_bytes b o2 0 ⟨#[]⟩ 10 w' (fun i hi=>absurd hi (Nat.not_lt_zero _));have i2:∀w', Below w.heap.size w w' -> Calls Tryz.prog 122 #[.slice (some ⟨b,o2,none⟩) 0 0,.int .u8 13] w' fun e w'' => e=.returned (.int .i64 (-1))/\w'' = w' := fun w' _=>Tryz.bytes_IndexByte_bytes b o2 0 ⟨#[]⟩ 13 w' (fun i hi=>absurd hi (Nat.not_lt_zero _));replace i1:=Hd i1;replace i2:=Hd i2
   go_enter Tryz.func101,Tryz.ntmps101
   go_wp2_with fail
   refine Ad (by kernel_rfl) (by kernel_rfl) ?_;repeat (go_big_quiet_step ((fail)))
   refine wpQuiet_nil ?_;rintro _ ⟨xq,rfl⟩;have hS:=Ag w xq;obtain ⟨W2,hW2⟩:∃W2,W2=grow w xq:=⟨_,rfl⟩;rw [<-hW2] at hS ⊢;replace hW2:=Hd hW2;replace hS:=Hd hS;have hgl2:g<W2.heap.size:=Nat.lt_of_lt_of_le hgl hS.out.size;clear c0 c1;go_wp2_with fail
   refine (i1.out W2 hS.out).mono ?_;rintro e w' ⟨rfl,hww⟩;obtain rfl:=hww.symm;clear hww;go_wp2_with fail
   refine (i2.out W2 hS.out).mono ?_;rintro e w' ⟨rfl,hww⟩;obtain rfl:=hww.symm;clear hww;go_wp2_with fail
   refine (Bu _).mono ?_;rintro e w' ⟨rfl,hww⟩;obtain rfl:=hww.symm;clear hww;exact ⟨rfl,rfl,hS.out⟩
 · go_enter Tryz.func101,Tryz.ntmps101
   go_wp2_with fail
   refine Ad (by kernel_rfl) (by kernel_rfl) ?_;repeat (go_big_quiet_step ((fail)))
   refine wpQuiet_nil ?_;rintro _ ⟨xq,rfl⟩;have hS:=Ag w xq;obtain ⟨W2,hW2⟩:∃W2,W2=grow w xq:=⟨_,rfl⟩;rw [<-hW2] at hS ⊢;replace hW2:=Hd hW2;replace hS:=Hd hS;have hgl2:g<W2.heap.size:=Nat.lt_of_lt_of_le hgl hS.out.size;clear c0 c1;go_wp2_with fail
   refine (i1.out W2 hS.out).mono ?_;rintro e w' ⟨rfl,hww⟩;obtain rfl:=hww.symm;clear hww;go_wp2_with fail
   refine (i2.out W2 hS.out).mono ?_;rintro e w' ⟨rfl,hww⟩;obtain rfl:=hww.symm;clear hww;rcases hcase.out with ⟨q,q2,q3⟩ | ⟨q,q2,q3,q4⟩
   · have y1:(N == 0)=false:=by simp;omega
     have y2:¬0<N:=by omega
     have y3:¬0<=K:=by omega
     have y4:((R.size:Int) == 4200)=false:=by simpa using q3
     replace q3:=Hd q3;go_wp2_with fail
     refine (Bu _).mono ?_;rintro e w' ⟨rfl,hww⟩;obtain rfl:=hww.symm;clear hww;exact ⟨rfl,rfl,hS.out⟩
   · have y1:(N == 0)=false:=by simp;omega
     have y2:¬0<N:=by omega
     have y4:((R.size:Int) == 4200)=false:=by simpa using q4
     replace q4:=Hd q4;go_wp2_with fail
     refine (Bu _).mono ?_;rintro e w' ⟨rfl,hww⟩;obtain rfl:=hww.symm;clear hww;exact ⟨rfl,rfl,hS.out⟩
set_option maxRecDepth 100000 in
set_option maxHeartbeats 3200000 in
theorem Cm {w:World} {g b o n cap at_ many u:Nat} {s:ByteArray} {t:List UInt8} (h:Scan w g b o n cap s at_ many) (hat:at_<=n) (hz:Bp (s.data.toList.drop at_)=.got (t,u)) :
   Calls Tryz.prog 101 #[.pointer (some ⟨g,0,none⟩)] w fun e w' => e=.returned (.string ⟨t.toArray⟩)/\Fr (fun k=>k=g) w w' /\ Scan w' g b o n cap s (at_+u) many/\at_+u<=n:=by
 have c0:=h.c0;have c1:=h.c1;have hcap:=h.room;have hbig:=h.big;have hgl:=h.blk.lt;have hai:(at_:Int)<=(n:Int):=by omega
 obtain ⟨o2,ho2,hby⟩:=h.rest hat;obtain ⟨m,hm⟩:∃m,m=min (n - at_) 4200:=⟨_,rfl⟩;have hmin:min ((n - at_:Nat):Int) 4200=(m:Int):=by omega
 have hmn:(m:Int)<=((n - at_:Nat):Int):=by omega
 have hmn2:m<=n - at_:=by omega
 obtain ⟨R,hR,hRz,hRb⟩:=Ek (w:=w) (b:=b) (o2:=o2) (s:=s) (at_:=at_) (n:=n) h.size hat hby hm;subst hRz;obtain ⟨N,hN⟩:∃N,N=Lib.indexByte R.data.toList 10:=⟨_,rfl⟩;obtain ⟨K,hK⟩:∃K,K=Lib.indexByte R.data.toList 13:=⟨_,rfl⟩;have i1:=fun w' (hb:Below w.heap.size w w')=>Tryz.bytes_IndexByte_bytes b o2 (cap - at_) R 10 w' (A3 hRb hb);have i2:=fun w' (hb:Below w.heap.size w w')=>Tryz.bytes_IndexByte_bytes b o2 (cap - at_) R 13 w' (A3 hRb hb);rw [show ((10:Int).toNat.toUInt8)=10 by rfl,<-hN] at i1;rw [show ((13:Int).toNat.toUInt8)=13 by rfl,<-hK] at i2;unfold Bp at hz;rw [<-hR] at hz;dsimp only at hz;rw [<-hN,<-hK,<-Am R] at hz;have hNl:=Lib.indexByte_ge R.data.toList 10;have hNu:=A2 R.data.toList 10;have hKl:=Lib.indexByte_ge R.data.toList 13;rw [<-hN] at hNl hNu;rw [<-hK] at hKl;rw [<-Am R] at hNu;have hN9:N<(R.size:Int)\/(N<0/\R.size=0):=by
   rcases hNu with h | h
   · exact .inl h
   · refine .inr ⟨?_,by rw [Am,h];rfl⟩
     rw [hN,h];decide
 have hRs:R.size<=4200:=by omega
 have hKu:=A2 R.data.toList 13;rw [<-hK,<-Am R] at hKu;have hK9:K<(R.size:Int)\/(K<0/\R.size=0):=by
   rcases hKu with h | h
   · exact .inl h
   · refine .inr ⟨?_,by rw [Am,h];rfl⟩
     rw [hK,h];decide
 replace hKu:=Hd hKu;replace hby:=Hd hby;replace hRb:=Hd hRb;replace hR:=Hd hR;replace hm:=Hd hm;replace hN:=Hd hN;replace hK:=Hd hK;replace i1:=Hd i1;replace i2:=Hd i2;replace hz:=Hd hz;replace h:=Hd h;replace hNu:=Hd hNu;have hcase:0<N/\K=N - 1/\t=R.data.toList.take (N - 1).toNat/\u=(N+1).toNat:=by
   have hz:=hz.out;split at hz
   · cases hz
   · split at hz
     · cases hz
     · simp only [Out.got.injEq,Prod.mk.injEq] at hz
       refine ⟨by omega,by omega,hz.1.symm,hz.2.symm⟩
 obtain ⟨q1,q2,q3,q4⟩:=hcase;rcases ho2 with ⟨hc,rfl⟩ | ⟨hc,rfl⟩
 · exfalso;omega
 · obtain ⟨p,hp⟩:∃p:Nat,N=((p+1:Nat):Int):=⟨(N - 1).toNat,by omega⟩
   have hK2:K=(p:Int):=by omega
   have hpR:p+1<R.size:=by omega
   have hu2:u=p+2:=by omega
   have ht2:t=R.data.toList.take p:=by rw [q3];congr 1;omega
   replace hN:=Hd hN;replace hK:=Hd hK;subst hp;subst hK2;subst hu2;replace ht2:=Hd ht2;clear q1 q2 q3 q4;have y1:(((p+1:Nat):Int) == 0)=false:=by simp;omega
   have y2:(0:Int)<((p+1:Nat):Int):=by omega
   have y3:((p:Int) != ((p+1:Nat):Int) - 1)=false:=by simp
   have y5:¬((p+1:Nat):Int)<0:=by omega
   go_enter Tryz.func101,Tryz.ntmps101
   go_wp2_with fail
   refine Ad (by kernel_rfl) (by kernel_rfl) ?_;repeat (go_big_quiet_step ((fail)))
   refine wpQuiet_nil ?_;rintro _ ⟨xq,rfl⟩;have hS:=Ag w xq;obtain ⟨W2,hW2⟩:∃W2,W2=grow w xq:=⟨_,rfl⟩;rw [<-hW2] at hS ⊢;replace hW2:=Hd hW2;replace hS:=Hd hS;have hgl2:g<W2.heap.size:=Nat.lt_of_lt_of_le hgl hS.out.size;clear c0 c1;go_wp2_with fail
   refine (i1.out W2 hS.out).mono ?_;rintro e w' ⟨rfl,hww⟩;obtain rfl:=hww.symm;clear hww;go_wp2_with fail
   refine (i2.out W2 hS.out).mono ?_;rintro e w' ⟨rfl,hww⟩;obtain rfl:=hww.symm;clear hww;have c1:=(hS.out.cell (World.block_lt_of_cell? _ _ h.out.c1)).trans h.out.c1;have hS1:Scan W2 g b o n cap s at_ many:=h.out.fr (Fr.of_below hS.out) (by omega) (by have:=h.out.blk.lt;have:=(World.block_lt_of_cell? _ _ (hRb.out 0 (by omega)));exact Nat.not_le_of_lt this);have z1:=hS1.blk.frz 1 none;have hcv:∀v,(convert 32 9 (.slice (some ⟨b,o+at_,none⟩) p (cap - at_))).run Tryz.prog (W2.setCell ⟨g,1,none⟩ v)=.ok (.string ⟨t.toArray⟩) (W2.setCell ⟨g,1,none⟩ v):=fun v=>by
     have hl:(R.data.toList.take p).length=p:=by rw [List.length_take,<-Am];omega
     have h7:=run_convert_bytes_back (P:=Tryz.prog) (W2.setCell ⟨g,1,none⟩ v) 32 9 5 ⟨b,o+at_,none⟩ (cap - at_) (R.data.toList.take p) Tryz.underlying32 Tryz.underlying5 Tryz.underlying9 (fun j hj=>by
       have hj2:j<p:=by rw [hl] at hj;exact hj
       have h8:=A3 hRb.out hS.out j (by omega);rw [add_r,Ab (fun e=>h.out.ne (congrArg Addr.block e).symm),h8];have e:(R.data.toList.take p)[j]'hj=R[j]'(by omega):=by
         rw [List.getElem_take];exact Option.some.inj ((List.getElem?_eq_getElem (by rw [<-Am];omega)).symm.trans (Lib.data_getElem? R j (by omega)))
       rw [e])
     rw [hl,<-ht2.out] at h7;exact h7
   replace hS1:=Hd hS1;have hnn:at_+(p+2)<=n:=by omega
   have hsum:(at_:Int)+(((p+1:Nat):Int)+1)=((at_+(p+2):Nat):Int):=by omega
   go_wp2_with fail
   go_ret;refine ⟨rfl,Fr.setCell (S:=fun k=>k=g) ((Fr.of_below hS.out).mono (fun i hi h=>absurd hi (Nat.not_lt_of_le h))) (fun _=>rfl) _,?_⟩;rw [show (at_:Int)+((p:Int)+1+1)=((at_+(p+2):Nat):Int) by omega];exact hS1.out.move _
end Go.Proofs.YtfaihaoajdcjbaaGreatDoor
