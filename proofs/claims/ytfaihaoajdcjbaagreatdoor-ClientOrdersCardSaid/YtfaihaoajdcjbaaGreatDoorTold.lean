/- The client: is it told of a key's changes? -/
import Derived.Test.YtfaihaoajdcjbaaGreatDoorCliRd
import Derived.Test.YtfaihaoajdcjbaaGreatDoorJ17
set_option linter.all false
namespace Go.Proofs.YtfaihaoajdcjbaaGreatDoor
open Go.RowKit
def Do (m:Md) (k:ByteArray):Bool:=!m.bcast || m.prefixes.any fun p=>Lib.hasPrefix k.data.toList p.data.toList
theorem tcl_any {w:World} {kb:Nat} {k p:ByteArray} (hk:w.cell? ⟨kb,0,none⟩=some (.string k)) :
   Calls Tryz.prog 62 #[.string p,.pointer (some ⟨kb,0,none⟩)] w fun e w' => e=.returned (.bool (Lib.hasPrefix k.data.toList p.data.toList))/\w' = w:=by
 have hpf:=Hd (Tryz.strings_HasPrefix k p w)
 go_enter Tryz.func62,Tryz.ntmps62
 go_wp2_with fail
 refine hpf.out.mono ?_;rintro e w' ⟨rfl,hww⟩;obtain rfl:=hww.symm;clear hww;go_wp2_with fail
 go_ret;exact ⟨rfl,rfl⟩
set_option maxRecDepth 100000 in
set_option maxHeartbeats 1600000 in
theorem ifn_any {w:World} {kb n pc:Nat} {pa:Option Addr} {k:ByteArray} {l:List ByteArray} (hx:Reads w 1 (.slice pa n pc) n (l.map Value.string)) (hn:n<=1000) (hk:w.cell? ⟨kb,0,none⟩=some (.string k)) :
   Calls Tryz.prog 81 #[.slice pa n pc,.func (.func 62) #[] #[.pointer (some ⟨kb,0,none⟩)]] w fun e w' =>
     ((∃i:Nat,e=.returned (.int .i64 i)/\l.any (fun p=>Lib.hasPrefix k.data.toList p.data.toList)=true)\/(e=.returned (.int .i64 (-1))/\l.any (fun p=>Lib.hasPrefix k.data.toList p.data.toList)=false))/\w' = w:=by
 have hll:l.length=n:=by have:=hx.len.2;simpa using this
 replace hx:=Hd hx;replace hll:=Hd hll
 go_enter Tryz.func81,Tryz.ntmps81
 go_wp2_with fail
 go_loopw [8] (fun s8 wr=>wr=w/\∃i:Nat,i<=n/\s8=.int .i64 i/\∀(j:Nat) (hj:j<l.length),j<i->Lib.hasPrefix k.data.toList l[j].data.toList=false) (fun s8 _=>n - (intOf s8).toNat)
 case atStart=>exact ⟨rfl,0,Nat.zero_le _,rfl,fun j _ h=>absurd h (by omega)⟩
 case round=>
   obtain ⟨hwr,i,hi,rfl,hno⟩:=hrel;obtain rfl:=hwr.symm;clear hwr;replace hno:=Hd hno;by_cases hlt:i<n
   · have hil:i<l.length:=by have:=hll.out;omega
     obtain ⟨b,o,he,hc⟩:=hx.out.at (j:=i) (by simpa using hil);cases he
     have hc0:=hc i (.string l[i]) (by rw [List.getElem?_map,List.getElem?_eq_getElem hil];rfl);clear hc;obtain ⟨q,hq⟩:∃q,q=l[i]:=⟨_,rfl⟩;rw [<-hq] at hc0;replace hq:=Hd hq;have hlti:(i:Int)<n:=by omega
     have ht:=Hd (tcl_any (p:=q) hk);go_wp2_with fail
     refine ht.out.mono ?_;rintro e w4 ⟨rfl,hww⟩;obtain rfl:=hww.symm;clear hww;cases hp:Lib.hasPrefix k.data.toList q.data.toList with
     | true=>
       go_wp2_with fail
       go_ret;exact ⟨Or.inl ⟨i,rfl,List.any_eq_true.2 ⟨l[i],List.getElem_mem _,by rw [<-hq.out];exact hp⟩⟩,rfl⟩
     | false=>
       replace hp:=Hd hp;go_wp2_with fail
       go_roundw
       case rel=>exact ⟨trivial,i+1,by omega,by first | rfl | go_num,fun j hj h=>by
         rcases Nat.lt_or_ge j i with h9 | h9
         · exact hno.out j hj h9
         · have:j=i:=by omega
           subst this;rw [<-hq.out];exact hp.out⟩
       case measure=>simp [intOf];omega
   · have hin:i=n:=by omega
     subst hin;go_wp2_with fail
     go_ret;refine ⟨Or.inr ⟨rfl,?_⟩,rfl⟩;rw [List.any_eq_false];intro x hx9;obtain ⟨j,hj,rfl⟩:=List.getElem_of_mem hx9;rw [hno.out j hj (by have:=hll.out;omega)];decide
theorem cfn_any {w:World} {kb n pc:Nat} {pa:Option Addr} {k:ByteArray} {l:List ByteArray} (hx:Reads w 1 (.slice pa n pc) n (l.map Value.string)) (hn:n<=1000) (hk:w.cell? ⟨kb,0,none⟩=some (.string k)) :
   Calls Tryz.prog 61 #[.slice pa n pc,.func (.func 62) #[] #[.pointer (some ⟨kb,0,none⟩)]] w fun e w' => e=.returned (.bool (l.any fun p=>Lib.hasPrefix k.data.toList p.data.toList))/\w' = w:=by
 have h:=Hd (ifn_any hx hn hk);clear hx hk
 go_enter Tryz.func61,Tryz.ntmps61
 go_wp2_with fail
 refine h.out.mono ?_;rintro e w' ⟨hr | hr,hww⟩
 · obtain ⟨i,rfl,hi⟩:=hr
   obtain rfl:=hww.symm;clear hww;have h0:(0:Int)<=i:=by omega
   go_wp2_with fail
   go_ret;exact ⟨by rw [hi];rfl,rfl⟩
 · obtain ⟨rfl,hi⟩:=hr
   obtain rfl:=hww.symm;clear hww;go_wp2_with fail
   go_ret;exact ⟨by rw [hi];rfl,rfl⟩
set_option maxRecDepth 100000 in
set_option maxHeartbeats 1600000 in
theorem told_any {w:World} {ow:Nat->Nat} {cb:Nat} {s:CS} (h:Cli ow w cb s) (hg:s.md.good) (k:ByteArray):Calls Tryz.prog 39 #[P0 cb,.string k] w fun e w' => e=.returned (.bool (Do s.md k))/\Below w.heap.size w w' := by
 obtain ⟨p,rs,hC,hP,hq⟩:=h.out;cases hbc:s.md.bcast with
 | false=>
   have e1:Do s.md k=true:=by unfold Do;rw [hbc];rfl
   rw [e1];exact Fq hC hbc k
 | true=>
   have e1:Do s.md k=s.md.prefixes.any fun p=>Lib.hasPrefix k.data.toList p.data.toList:=by unfold Do;rw [hbc];rfl
   rw [e1];have hb:=(Below.refl w.heap.size w).alloc (Nat.le_refl _) (.cells #[.string k] 9);have hk:(w.alloc (.cells #[.string k] 9)).cell? ⟨w.heap.size,0,none⟩=some (.string k):=by rw [World.cell?_alloc_new];rfl
   have c2:=(hC.below hb).c2;have c7:=(hC.below hb).c7;rw [hbc] at c2;have hpre:=hP.pre.below hb;obtain ⟨pa,pc,hpv,hpn,_⟩:=hpre;rw [hpv] at c7;have hpre:=hP.pre.below hb;rw [hpv] at hpre;have hc:=Hd (cfn_any hpre (by have:=(hg.pre hbc).2.2;omega) hk);clear hC hP hpre e1 h hk hpv;replace hb:=Hd hb;replace hg:=Hd hg
   go_enter Tryz.func39,Tryz.ntmps39
   go_wp2_with fail
   refine hc.out.mono ?_;rintro e w' ⟨rfl,hww⟩;obtain rfl:=hww.symm;clear hww;go_wp2_with fail
   go_ret;exact ⟨rfl,hb.out⟩
end Go.Proofs.YtfaihaoajdcjbaaGreatDoor
