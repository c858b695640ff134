/- The reader: so many bytes; a line's number. -/
import Derived.Test.YtfaihaoajdcjbaaGreatDoorRdL
import Derived.Test.YtfaihaoajdcjbaaGreatDoorJ6
set_option linter.all false
namespace Go.Proofs.YtfaihaoajdcjbaaGreatDoor
open Go.RowKit
def Dq (L:List UInt8) (k:Nat):Out (List UInt8):=
 if (k<L.length/\L.getD k 0≠13)\/(k+1<L.length/\L.getD (k+1) 0≠10) then .stop 51
 else if L.length<k+2 then .stop 0 else .got (L.take k)
set_option maxRecDepth 100000 in
set_option maxHeartbeats 3200000 in
theorem long_stop {w:World} {g b o n cap at_ many k q:Nat} {s:ByteArray} (h:Scan w g b o n cap s at_ many) (hat:at_<=n) (hk:k<=100000) (hz:Dq (s.data.toList.drop at_) k=.stop q) :
   Calls Tryz.prog 103 #[.pointer (some ⟨g,0,none⟩),.int .i64 (k:Int)] w fun e w' => e=Bf q/\Below w.heap.size w w' := by
 have c0:=h.c0;have c1:=h.c1;have hcap:=h.room;have hbig:=h.big;have hgl:=h.blk.lt;have hai:(at_:Int)<=(n:Int):=by omega
 obtain ⟨o2,ho2,hby⟩:=h.rest hat;obtain ⟨T,hT⟩:∃T,T=n - at_:=⟨_,rfl⟩;have hLl:(s.data.toList.drop at_).length=T:=by rw [List.length_drop,<-Am,h.size,hT]
 have hgD:∀j,(s.data.toList.drop at_).getD j 0=s.data.toList.getD (at_+j) 0:=fun j=>by
   rw [List.getD_eq_getElem?_getD,List.getElem?_drop,<-List.getD_eq_getElem?_getD]
 have hby2:∀j,j<T->w.cell? ⟨b,o2+j,none⟩=some (.int .u8 (((s.data.toList.drop at_).getD j 0).toNat:Int)):=fun j hj=>by rw [hgD];exact hby j (by omega)
 have hlT:((n - at_:Nat):Int)=(T:Int):=by omega
 unfold Dq at hz;rw [hLl] at hz;generalize hLg:s.data.toList.drop at_=L at hz hLl hby2 hgD;clear hgD hby;replace hby2:=Hd hby2;replace hLg:=Hd hLg;replace hz:=Hd hz;replace h:=Hd h;replace hT:=Hd hT;replace hLl:=Hd hLl;have hcase:(q=51/\k<T/\L.getD k 0≠13)\/(q=51/\k+1<T/\L.getD k 0=13/\L.getD (k+1) 0≠10)\/(q=0/\T<=k)\/(q=0/\T=k+1/\L.getD k 0=13):=by
   have hz:=hz.out;by_cases h1:k<T/\L.getD k 0≠13
   · rw [if_pos (.inl h1)] at hz
     simp only [Out.stop.injEq] at hz;exact .inl ⟨hz.symm,h1⟩
   · by_cases h2:k+1<T/\L.getD (k+1) 0≠10
     · rw [if_pos (.inr h2)] at hz
       simp only [Out.stop.injEq] at hz;refine .inr (.inl ⟨hz.symm,h2.1,?_,h2.2⟩);by_cases h3:L.getD k 0=13
       · exact h3
       · exact absurd ⟨by omega,h3⟩ h1
     · rw [if_neg (by rintro (h | h);exact h1 h;exact h2 h)] at hz
       split at hz
       · simp only [Out.stop.injEq] at hz
         rcases Nat.lt_or_ge k T with h3 | h3
         · refine .inr (.inr (.inr ⟨hz.symm,by omega,?_⟩))
           by_cases h4:L.getD k 0=13
           · exact h4
           · exact absurd ⟨h3,h4⟩ h1
         · exact .inr (.inr (.inl ⟨hz.symm,h3⟩))
       · cases hz
 replace hcase:=Hd hcase;rcases ho2 with ⟨hc,rfl⟩ | ⟨hc,rfl⟩
 · have hT0:T=0:=by have:=hT.out;omega
   have hnc:n=at_:=by have:=hT.out;omega
   subst hc;subst hnc;subst hT0;have hq:q=0:=by rcases hcase.out with h | h | h | h<;>omega
   subst hq;have y1:¬(k:Int)<0:=by omega
   have y2:¬(k:Int)+1<0:=by omega
   have y3:(0:Int)<(k:Int)+2:=by omega
   clear hlT hai hcap
   go_enter Tryz.func103,Tryz.ntmps103
   go_wp2_with fail
   refine Ad (by kernel_rfl) (by kernel_rfl) ?_;repeat (go_big_quiet_step ((fail)))
   refine wpQuiet_nil ?_;rintro _ ⟨xq,rfl⟩;have hS:=Ag w xq;obtain ⟨W2,hW2⟩:∃W2,W2=grow w xq:=⟨_,rfl⟩;rw [<-hW2] at hS ⊢;replace hW2:=Hd hW2;have hgl2:g<W2.heap.size:=Nat.lt_of_lt_of_le hgl hS.size;clear c0 c1;replace hS:=Hd hS;go_wp2_with fail
   refine (Bu _).mono ?_;rintro e w' ⟨rfl,hww⟩;obtain rfl:=hww.symm;clear hww;exact ⟨rfl,rfl,hS.out⟩
 · rcases hcase.out with ⟨rfl,q2,q3⟩ | ⟨rfl,q2,q3,q4⟩ | ⟨rfl,q2⟩ | ⟨rfl,q2,q3⟩
   · have d0:=hby2.out k q2
     have d1:((L.getD k 0).toNat:Int)≠13:=fun e=>q3 (UInt8.toNat_inj.1 (by show _=13;omega));have y1:(k:Int)<(T:Int):=by omega
     replace q3:=Hd q3;generalize (L.getD k 0).toNat=C at *;have d2:((C:Int) != 13)=true:=by simpa using d1
     replace d1:=Hd d1
     go_enter Tryz.func103,Tryz.ntmps103
     go_wp2_with fail
     refine Ad (by kernel_rfl) (by kernel_rfl) ?_;repeat (go_big_quiet_step ((fail)))
     refine wpQuiet_nil ?_;rintro _ ⟨xq,rfl⟩;have hS:=Ag w xq;obtain ⟨W2,hW2⟩:∃W2,W2=grow w xq:=⟨_,rfl⟩;rw [<-hW2] at hS ⊢;replace hW2:=Hd hW2;have hgl2:g<W2.heap.size:=Nat.lt_of_lt_of_le hgl hS.size;clear c0 c1;replace hS:=Hd hS;have d0:=(hS.out.cell (World.block_lt_of_cell? _ _ d0)).trans d0;go_wp2_with fail
     refine (Au _).mono ?_;rintro e w' ⟨rfl,hww⟩;obtain rfl:=hww.symm;clear hww;exact ⟨rfl,rfl,hS.out⟩
   · have d0:=hby2.out k (by omega)
     have d1:=hby2.out (k+1) q2;have y1:(k:Int)<(T:Int):=by omega
     have y2:(k:Int)+1<(T:Int):=by omega
     rw [q3] at d0;have d2:((L.getD (k+1) 0).toNat:Int)≠10:=fun e=>q4 (UInt8.toNat_inj.1 (by show _=10;omega));replace q3:=Hd q3;replace q4:=Hd q4;generalize (L.getD (k+1) 0).toNat=C at *;have d3:((C:Int) != 10)=true:=by simpa using d2
     replace d2:=Hd d2
     go_enter Tryz.func103,Tryz.ntmps103
     go_wp2_with fail
     refine Ad (by kernel_rfl) (by kernel_rfl) ?_;repeat (go_big_quiet_step ((fail)))
     refine wpQuiet_nil ?_;rintro _ ⟨xq,rfl⟩;have hS:=Ag w xq;obtain ⟨W2,hW2⟩:∃W2,W2=grow w xq:=⟨_,rfl⟩;rw [<-hW2] at hS ⊢;replace hW2:=Hd hW2;have hgl2:g<W2.heap.size:=Nat.lt_of_lt_of_le hgl hS.size;clear c0 c1;replace hS:=Hd hS;have d0:=(hS.out.cell (World.block_lt_of_cell? _ _ d0)).trans d0;have d1:=(hS.out.cell (World.block_lt_of_cell? _ _ d1)).trans d1;go_wp2_with fail
     refine (Au _).mono ?_;rintro e w' ⟨rfl,hww⟩;obtain rfl:=hww.symm;clear hww;exact ⟨rfl,rfl,hS.out⟩
   · have y1:¬(k:Int)<(T:Int):=by omega
     have y2:¬(k:Int)+1<(T:Int):=by omega
     have y3:(T:Int)<(k:Int)+2:=by omega
     go_enter Tryz.func103,Tryz.ntmps103
     go_wp2_with fail
     refine Ad (by kernel_rfl) (by kernel_rfl) ?_;repeat (go_big_quiet_step ((fail)))
     refine wpQuiet_nil ?_;rintro _ ⟨xq,rfl⟩;have hS:=Ag w xq;obtain ⟨W2,hW2⟩:∃W2,W2=grow w xq:=⟨_,rfl⟩;rw [<-hW2] at hS ⊢;replace hW2:=Hd hW2;have hgl2:g<W2.heap.size:=Nat.lt_of_lt_of_le hgl hS.size;clear c0 c1;replace hS:=Hd hS;go_wp2_with fail
     refine (Bu _).mono ?_;rintro e w' ⟨rfl,hww⟩;obtain rfl:=hww.symm;clear hww;exact ⟨rfl,rfl,hS.out⟩
   · have d0:=hby2.out k (by omega)
     have y1:(k:Int)<(T:Int):=by omega
     have y2:¬(k:Int)+1<(T:Int):=by omega
     have y3:(T:Int)<(k:Int)+2:=by omega
     rw [q3] at d0;replace q3:=Hd q3;replace q2:=Hd q2
     go_enter Tryz.func103,Tryz.ntmps103
     go_wp2_with fail
     refine Ad (by kernel_rfl) (by kernel_rfl) ?_;repeat (go_big_quiet_step ((fail)))
     refine wpQuiet_nil ?_;rintro _ ⟨xq,rfl⟩;have hS:=Ag w xq;obtain ⟨W2,hW2⟩:∃W2,W2=grow w xq:=⟨_,rfl⟩;rw [<-hW2] at hS ⊢;replace hW2:=Hd hW2;have hgl2:g<W2.heap.size:=Nat.lt_of_lt_of_le hgl hS.size;clear c0 c1;replace hS:=Hd hS;have d0:=(hS.out.cell (World.block_lt_of_cell? _ _ d0)).trans d0;go_wp2_with fail
     refine (Bu _).mono ?_;rintro e w' ⟨rfl,hww⟩;obtain rfl:=hww.symm;clear hww;exact ⟨rfl,rfl,hS.out⟩
set_option maxRecDepth 100000 in
set_option maxHeartbeats 3200000 in
theorem long_got {w:World} {g b o n cap at_ many k:Nat} {s:ByteArray} {t:List UInt8} (h:Scan w g b o n cap s at_ many) (hat:at_<=n) (hk:k<=100000) (hz:Dq (s.data.toList.drop at_) k=.got t) :
   Calls Tryz.prog 103 #[.pointer (some ⟨g,0,none⟩),.int .i64 (k:Int)] w fun e w' => e=.returned (.string ⟨t.toArray⟩)/\Fr (fun k=>k=g) w w' /\ Scan w' g b o n cap s (at_+(k+2)) many/\at_+(k+2)<=n:=by
 have c0:=h.c0;have c1:=h.c1;have hcap:=h.room;have hbig:=h.big;have hgl:=h.blk.lt;have hai:(at_:Int)<=(n:Int):=by omega
 obtain ⟨o2,ho2,hby⟩:=h.rest hat;obtain ⟨T,hT⟩:∃T,T=n - at_:=⟨_,rfl⟩;have hLl:(s.data.toList.drop at_).length=T:=by rw [List.length_drop,<-Am,h.size,hT]
 have hgD:∀j,(s.data.toList.drop at_).getD j 0=s.data.toList.getD (at_+j) 0:=fun j=>by
   rw [List.getD_eq_getElem?_getD,List.getElem?_drop,<-List.getD_eq_getElem?_getD]
 have hby2:∀j,j<T->w.cell? ⟨b,o2+j,none⟩=some (.int .u8 (((s.data.toList.drop at_).getD j 0).toNat:Int)):=fun j hj=>by rw [hgD];exact hby j (by omega)
 have hlT:((n - at_:Nat):Int)=(T:Int):=by omega
 unfold Dq at hz;rw [hLl] at hz;generalize hLg:s.data.toList.drop at_=L at hz hLl hby2 hgD;clear hgD hby;replace hby2:=Hd hby2;replace hLg:=Hd hLg;replace hz:=Hd hz;replace h:=Hd h;replace hT:=Hd hT;replace hLl:=Hd hLl;have hcase:k+2<=T/\L.getD k 0=13/\L.getD (k+1) 0=10/\t=L.take k:=by
   have hz:=hz.out;split at hz
   · cases hz
   · rename_i hn
     split at hz
     · cases hz
     · simp only [Out.got.injEq] at hz
       refine ⟨by omega,?_,?_,hz.symm⟩
       · by_cases h1:L.getD k 0=13
         · exact h1
         · exact absurd (.inl ⟨by omega,h1⟩) hn
       · by_cases h1:L.getD (k+1) 0=10
         · exact h1
         · exact absurd (.inr ⟨by omega,h1⟩) hn
 obtain ⟨q1,q2,q3,q4⟩:=hcase;rcases ho2 with ⟨hc,rfl⟩ | ⟨hc,rfl⟩
 · exfalso;have:=hT.out;omega
 · have d0:=hby2.out k (by omega)
   have d1:=hby2.out (k+1) (by omega);have y1:(k:Int)<(T:Int):=by omega
   have y2:(k:Int)+1<(T:Int):=by omega
   have y3:¬(T:Int)<(k:Int)+2:=by omega
   have y4:(k:Int)<=(T:Int):=by omega
   rw [q2] at d0;rw [q3] at d1;replace q2:=Hd q2;replace q3:=Hd q3;replace q4:=Hd q4
   go_enter Tryz.func103,Tryz.ntmps103
   go_wp2_with fail
   refine Ad (by kernel_rfl) (by kernel_rfl) ?_;repeat (go_big_quiet_step ((fail)))
   refine wpQuiet_nil ?_;rintro _ ⟨xq,rfl⟩;have hS:=Ag w xq;obtain ⟨W2,hW2⟩:∃W2,W2=grow w xq:=⟨_,rfl⟩;rw [<-hW2] at hS ⊢;replace hW2:=Hd hW2;have hgl2:g<W2.heap.size:=Nat.lt_of_lt_of_le hgl hS.size;clear c0 c1;replace hS:=Hd hS;have d0:=(hS.out.cell (World.block_lt_of_cell? _ _ d0)).trans d0;have d1:=(hS.out.cell (World.block_lt_of_cell? _ _ d1)).trans d1;have hblt:b<w.heap.size:=World.block_lt_of_cell? _ _ (hby2.out k (by omega));have hS1:Scan W2 g b o n cap s at_ many:=h.out.fr (Fr.of_below hS.out) (by omega) (Nat.not_le_of_lt hblt);have c1:=hS1.c1;have z1:=hS1.blk.frz 1 none;have hcv:∀v,(convert 32 9 (.slice (some ⟨b,o+at_,none⟩) k (cap - at_))).run Tryz.prog (W2.setCell ⟨g,1,none⟩ v)=.ok (.string ⟨t.toArray⟩) (W2.setCell ⟨g,1,none⟩ v):=fun v=>by
     have hl:(L.take k).length=k:=by rw [List.length_take,hLl.out];omega
     have h7:=run_convert_bytes_back (P:=Tryz.prog) (W2.setCell ⟨g,1,none⟩ v) 32 9 5 ⟨b,o+at_,none⟩ (cap - at_) (L.take k) Tryz.underlying32 Tryz.underlying5 Tryz.underlying9 (fun j hj=>by
       have hj2:j<k:=by rw [hl] at hj;exact hj
       have h8:=hby2.out j (by omega);rw [add_r,Ab (fun e=>h.out.ne (congrArg Addr.block e).symm),hS.out.cell (World.block_lt_of_cell? _ _ h8),h8];have e:(L.take k)[j]'hj=L.getD j 0:=by
         rw [List.getElem_take,List.getD_eq_getElem?_getD,List.getElem?_eq_getElem];rfl
       rw [e])
     rw [hl,<-q4.out] at h7;exact h7
   replace hS1:=Hd hS1;have hnn:at_+(k+2)<=n:=by have:=hT.out;omega
   go_wp2_with fail
   go_ret;refine ⟨rfl,Fr.setCell (S:=fun k=>k=g) ((Fr.of_below hS.out).mono (fun i hi h=>absurd hi (Nat.not_lt_of_le h))) (fun _=>rfl) _,?_⟩;rw [show (at_:Int)+((k:Int)+2)=((at_+(k+2):Nat):Int) by omega];exact ⟨hS1.out.move _,hnn⟩
def numS (t:List UInt8) (most:Nat):Option Nat:=match wP t with
 | some v=>if 0<=v/\v<=most then some v.toNat else none
 | none=>none
set_option maxRecDepth 100000 in
theorem Du {w:World} {t:ByteArray} {most k:Nat} (ht:t.size<=1000000) (hm:most<=100000) (hN:Nums w) (hz:numS t.data.toList most=some k) :
   Calls Tryz.prog 104 #[.string t,.int .i64 0,.int .i64 (most:Int)] w fun e w' => e=.returned (.int .i64 (k:Int))/\Below w.heap.size w w' := by
 have hp:=Dt t (by omega) w hN;unfold numS at hz;cases hw:wP t.data.toList with
 | none=>rw [hw] at hz;cases hz
 | some v=>
   rw [hw] at hz hp;dsimp only at hz;split at hz
   · rename_i hv
     have hk:v=(k:Int):=by have:=Option.some.inj hz;omega
     subst hk;have y1:¬(k:Int)<0:=by omega
     have y2:¬(most:Int)<(k:Int):=by omega
     replace hp:=Hd hp;clear hw hz
     go_enter Tryz.func104,Tryz.ntmps104
     go_wp2_with fail
     refine hp.out.mono ?_;rintro e w1 ⟨rfl,hb⟩;replace hb:=Hd hb;simp only [Option.getD_some,Option.isSome_some,if_true];go_wp2_with fail
     go_ret;exact ⟨rfl,hb.out⟩
   · cases hz
set_option maxRecDepth 100000 in
theorem number_no {w:World} {t:ByteArray} {most:Nat} (ht:t.size<=1000000) (hm:most<=100000) (hN:Nums w) (hz:numS t.data.toList most=none) :
   Calls Tryz.prog 104 #[.string t,.int .i64 0,.int .i64 (most:Int)] w fun e w' => e=Bf 51/\Below w.heap.size w w' := by
 have hp:=Dt t (by omega) w hN;unfold numS at hz;cases hw:wP t.data.toList with
 | none=>
   rw [hw] at hp;replace hp:=Hd hp;clear hw hz
   go_enter Tryz.func104,Tryz.ntmps104
   go_wp2_with fail
   refine hp.out.mono ?_;rintro e w1 ⟨rfl,hb⟩;replace hb:=Hd hb;simp only [Option.getD_none,Option.isSome_none,Bool.false_eq_true,if_false];go_wp2_with fail
   refine (Au _).mono ?_;rintro e w' ⟨rfl,hww⟩;obtain rfl:=hww.symm;clear hww;exact ⟨rfl,rfl,hb.out⟩
 | some v=>
   rw [hw] at hz hp;dsimp only at hz;split at hz
   · cases hz
   · rename_i hv
     replace hp:=Hd hp;clear hw hz;by_cases h0:v<0
     · go_enter Tryz.func104,Tryz.ntmps104
       go_wp2_with fail
       refine hp.out.mono ?_;rintro e w1 ⟨rfl,hb⟩;replace hb:=Hd hb;simp only [Option.getD_some,Option.isSome_some,if_true];go_wp2_with fail
       refine (Au _).mono ?_;rintro e w' ⟨rfl,hww⟩;obtain rfl:=hww.symm;clear hww;exact ⟨rfl,rfl,hb.out⟩
     · have y2:(most:Int)<v:=by omega
       replace hv:=Hd hv
       go_enter Tryz.func104,Tryz.ntmps104
       go_wp2_with fail
       refine hp.out.mono ?_;rintro e w1 ⟨rfl,hb⟩;replace hb:=Hd hb;simp only [Option.getD_some,Option.isSome_some,if_true];go_wp2_with fail
       refine (Au _).mono ?_;rintro e w' ⟨rfl,hww⟩;obtain rfl:=hww.symm;clear hww;exact ⟨rfl,rfl,hb.out⟩
end Go.Proofs.YtfaihaoajdcjbaaGreatDoor
