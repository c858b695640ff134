/- nearhandref13.Right: what it finds right is a mode that can be. -/
import Derived.Test.YtfaihaoajdcjbaaGreatDoorJ17
set_option linter.all false
namespace Go.Proofs.YtfaihaoajdcjbaaGreatDoor
open Go.RowKit
def preLt (q p:ByteArray):Prop:=Op.bytesLess q.toList p.toList=true/\Lib.hasPrefix p.data.toList q.data.toList=false
def PRto (l:List ByteArray) (j:Nat):Prop:=∀(i:Nat) (_:i<j) (hi:i<l.length),l[i].size<=512/\∀(c:Nat) (hc:c<i),preLt (l[c]'(by omega)) l[i]
theorem PRto.ok {l:List ByteArray} (h:PRto l l.length):PRok l:=fun i hi=>⟨(h i hi hi).1,fun h0=>(h i hi hi).2 (i - 1) (by omega)⟩
def Rt13 (m:Md) (e:Ending):Prop:=∃b,e=.returned (.bool b)/\(b=true->m.good)
set_option maxRecDepth 100000 in
set_option maxHeartbeats 3200000 in
theorem right13_any {w:World} {pa:Option Addr} {n pc:Nat} {m:Md} (hon:m.on=true) (hopt:m.optin=false) (hx:Reads w 1 (.slice pa n pc) n (m.prefixes.map Value.string)) (hcap:n<=pc) (hn:n<=9223372036854775807) :
   Calls Tryz.prog 8 #[.agg #[.bool m.on,.bool m.bcast,.bool m.optin,.bool m.optout,.bool m.noloop,.int .i64 m.redirect,.slice pa n pc]] w fun e w' => Rt13 m e/\Below w.heap.size w w' := by
 have hll:m.prefixes.length=n:=by have:=hx.len.2;simpa using this
 obtain ⟨on,bcast,optin,optout,noloop,redirect,prefixes⟩:=m;simp only at hon hopt hll hx ⊢;subst hon;subst hopt;obtain ⟨W,hW⟩:∃W,W=w.alloc (.cells #[.bool true,.bool bcast,.bool false,.bool optout,.bool noloop,.int .i64 redirect,.slice pa n pc] 24):=⟨_,rfl⟩;have hb:Below w.heap.size w W:=by rw [hW];exact (Below.refl _ _).alloc (Nat.le_refl _) _
 have hxW:=hx.below hb;clear hx;replace hb:=Hd hb;by_cases hr0:redirect<0
 · clear hxW hll
   replace hW:=Hd hW
   go_enter Tryz.func8,Tryz.ntmps8
   go_wp2_with fail
   go_ret;exact ⟨⟨_,rfl,fun h=>by cases h⟩,by rw [<-hW.out];exact hb.out⟩
 by_cases hr1:1000000000<redirect
 · clear hxW hll
   replace hW:=Hd hW
   go_enter Tryz.func8,Tryz.ntmps8
   go_wp2_with fail
   go_ret;exact ⟨⟨_,rfl,fun h=>by cases h⟩,by rw [<-hW.out];exact hb.out⟩
 cases bcast with
 | false=>
   by_cases hn0:n=0
   · subst hn0
     have hnil:prefixes=[]:=List.eq_nil_of_length_eq_zero hll;clear hxW hll;replace hnil:=Hd hnil;replace hW:=Hd hW
     go_enter Tryz.func8,Tryz.ntmps8
     go_wp2_with fail
     go_ret;exact ⟨⟨_,rfl,fun _=>⟨rfl,by show 0<=redirect;omega,by show redirect<=1000000000;omega,rfl,fun h=>(by cases h),fun _=>hnil.out,fun h=>(by cases h)⟩⟩,by rw [<-hW.out];exact hb.out⟩
   · have hne:¬((n:Int)=0):=by omega
     clear hxW hll;replace hW:=Hd hW
     go_enter Tryz.func8,Tryz.ntmps8
     go_wp2_with fail
     go_ret;exact ⟨⟨_,rfl,fun h=>by simp [hne] at h;exact absurd h hn0⟩,by rw [<-hW.out];exact hb.out⟩
 | true=>
   cases optout with
   | true=>
     clear hxW hll;replace hW:=Hd hW
     go_enter Tryz.func8,Tryz.ntmps8
     go_wp2_with fail
     go_ret;exact ⟨⟨_,rfl,fun h=>by cases h⟩,by rw [<-hW.out];exact hb.out⟩
   | false=>
     have d6:W.cell? ⟨w.heap.size,6,none⟩=some (.slice pa n pc):=by rw [hW,World.cell?_alloc_new];rfl
     replace hxW:=Hd hxW;replace hll:=Hd hll;replace hW:=Hd hW;replace d6:=Hd d6
     go_enter Tryz.func8,Tryz.ntmps8
     go_wp2_with fail
     rw [<-hW.out];go_loopw [55] (fun i wr=>∃j:Nat,j<=n/\i=.int .i64 (j:Int)/\PRto prefixes j/\Below W.heap.size W wr) (fun i _=>n - (intOf i).toNat)
     case atStart=>exact ⟨0,Nat.zero_le _,rfl,fun i h=>(by omega),Below.refl _ _⟩
     case round=>
       obtain ⟨j,hj,rfl,hok,hbr⟩:=hrel;by_cases hlt:j<n
       · have hlti:(j:Int)<n:=by omega
         have hjl:j<prefixes.length:=by have:=hll.out;omega
         obtain ⟨b,o,he,hc⟩:=(hxW.out.below hbr).at (j:=j) (by simpa using hjl);cases he
         have hc0:=hc j (.string prefixes[j]) (by rw [List.getElem?_map,List.getElem?_eq_getElem hjl];rfl);obtain ⟨t,ht⟩:∃t,t=prefixes[j]:=⟨_,rfl⟩;rw [<-ht] at hc0;have e6:=Aa hbr _ _ d6.out;replace ht:=Hd ht;replace hok:=Hd hok;replace hbr:=Hd hbr;have hjc:(j:Int)<=pc:=by omega
         have hj0:(0:Int)<=j:=by omega
         by_cases hts:(512:Int)<(t.size:Int)
         · clear hc
           go_wp2_with fail
           go_ret;exact ⟨⟨_,rfl,fun h=>(by cases h)⟩,hb.out.trans (hbr.out.mono hb.out.size)⟩
         · clear hc
           go_wp2_with fail
           go_loopw [68] (fun i wx=>∃c:Nat,c<=j/\i=.int .i64 (c:Int)/\(∀(d:Nat) (hd:d<prefixes.length),d<c->preLt prefixes[d] t)/\Below W.heap.size W wx) (fun i _=>j - (intOf i).toNat)
           case atStart=>exact ⟨0,Nat.zero_le _,rfl,fun i _ h=>(by omega),hbr.out⟩
           case round=>
             obtain ⟨c,hcj,rfl,hin,hbx⟩:=hrel;by_cases hct:c<j
             · have hcti:(c:Int)<j:=by omega
               have hcl:c<prefixes.length:=by omega
               obtain ⟨b2,o2,he2,hc2⟩:=(hxW.out.below hbx).at (j:=c) (by simpa using hcl);cases he2
               have hcx:=hc2 c (.string prefixes[c]) (by rw [List.getElem?_map,List.getElem?_eq_getElem hcl];rfl);clear hc2;obtain ⟨q,hq⟩:∃q,q=prefixes[c]:=⟨_,rfl⟩;rw [<-hq] at hcx;have hraw:=Lib.hasPrefix_raw t q;replace hq:=Hd hq;replace hin:=Hd hin;replace hbx:=Hd hbx;cases hA:Op.bytesLess q.toList t.toList with
               | false=>
                 replace hraw:=Hd hraw;go_wp2_with fail
                 go_ret;exact ⟨⟨_,rfl,fun h=>(by cases h)⟩,hb.out.trans (hbx.out.mono hb.out.size)⟩
               | true=>
                 by_cases hs:q.size<=t.size
                 · have hsi:(q.size:Int)<=t.size:=by omega
                   have hsd:decide (q.size<=t.size)=true:=by simpa using hs
                   rw [hsd,Bool.true_and] at hraw;cases hE:(t.extract 0 q.size).toList == q.toList with
                   | true=>
                     replace hraw:=Hd hraw;go_wp2_with fail
                     go_ret;exact ⟨⟨_,rfl,fun h=>(by cases h)⟩,hb.out.trans (hbx.out.mono hb.out.size)⟩
                   | false=>
                     rw [hE] at hraw;replace hraw:=Hd hraw;go_wp2_with fail
                     go_roundw
                     case rel=>
                       refine ⟨c+1,by omega,by first | rfl | go_num,fun d hd hdc=>?_,hbx.out⟩;rcases Nat.lt_succ_iff_lt_or_eq.1 hdc with h | h
                       · exact hin.out d hd h
                       · subst h;rw [<-hq.out];exact ⟨hA,hraw.out.symm⟩
                     case measure=>simp [intOf];omega
                 · have hsi:¬(q.size:Int)<=t.size:=by omega
                   have hsd:decide (q.size<=t.size)=false:=by simpa using hs
                   rw [hsd,Bool.false_and] at hraw;replace hraw:=Hd hraw;go_wp2_with fail
                   go_roundw
                   case rel=>
                     refine ⟨c+1,by omega,by first | rfl | go_num,fun d hd hdc=>?_,hbx.out⟩;rcases Nat.lt_succ_iff_lt_or_eq.1 hdc with h | h
                     · exact hin.out d hd h
                     · subst h;rw [<-hq.out];exact ⟨hA,hraw.out.symm⟩
                   case measure=>simp [intOf];omega
             · obtain rfl:c=j:=by omega
               replace hin:=Hd hin;replace hbx:=Hd hbx;go_wp2_with fail
               go_roundw
               case rel=>
                 refine ⟨c+1,by omega,by first | rfl | go_num,fun i hi hil=>?_,hbx.out⟩;rcases Nat.lt_succ_iff_lt_or_eq.1 hi with h | h
                 · exact hok.out i h hil
                 · subst h;rw [<-ht.out];exact ⟨by omega,fun d hd=>hin.out d (by omega) hd⟩
               case measure=>simp [intOf];omega
       · obtain rfl:j=n:=by omega
         have e6:=Aa hbr _ _ d6.out;replace hok:=Hd hok;replace hbr:=Hd hbr;by_cases h0:0<j
         · have h0i:(0:Int)<j:=by omega
           by_cases h32:j<=32
           · have h32i:(j:Int)<=32:=by omega
             go_wp2_with fail
             go_ret;exact ⟨⟨_,rfl,fun _=>⟨rfl,by show 0<=redirect;omega,by show redirect<=1000000000;omega,rfl,fun _=>rfl,fun h=>(by cases h),fun _=>⟨PRto.ok (by rw [hll.out];exact hok.out),by show 1<=prefixes.length;rw [hll.out];omega,by show prefixes.length<=32;rw [hll.out];omega⟩⟩⟩,hb.out.trans (hbr.out.mono hb.out.size)⟩
           · have h32i:¬(j:Int)<=32:=by omega
             go_wp2_with fail
             go_ret;exact ⟨⟨_,rfl,fun h=>(by simp at h)⟩,hb.out.trans (hbr.out.mono hb.out.size)⟩
         · have h0i:¬(0:Int)<j:=by omega
           go_wp2_with fail
           go_ret;exact ⟨⟨_,rfl,fun h=>(by simp at h)⟩,hb.out.trans (hbr.out.mono hb.out.size)⟩
end Go.Proofs.YtfaihaoajdcjbaaGreatDoor
