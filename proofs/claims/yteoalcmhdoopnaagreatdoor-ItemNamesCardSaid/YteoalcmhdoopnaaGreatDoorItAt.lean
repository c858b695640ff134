/- Where a field stands, or would: slices.BinarySearchFunc, item.at, item.Get. -/
import Derived.Test.YteoalcmhdoopnaaGreatDoorItAlive
namespace Go.Proofs.YteoalcmhdoopnaaGreatDoor
open Go.RowKit
theorem hasF_lb {fs:List Fld} {name:ByteArray} (hs:Srt fs) {f:Fld} (hf:fs[lbF fs name]?=some f):hasF fs name=true ↔ cmpB f.1 name=0:=by
 obtain ⟨hk,rfl⟩:=List.getElem?_eq_some_iff.1 hf;rw [Be hs,cmpB_zero];exact ⟨fun ⟨_,h⟩=>h,fun h=>⟨hk,h⟩⟩
theorem hasF_end {fs:List Fld} {name:ByteArray} (hs:Srt fs) (h:lbF fs name=fs.length):hasF fs name=false:=by
 cases hh:hasF fs name with
 | false=>rfl
 | true=>obtain ⟨hk,_⟩:=(Be hs).1 hh;omega
set_option maxRecDepth 100000 in
set_option maxHeartbeats 6400000 in
theorem bsearch_any (a:Option Addr) (n cap:Nat) (fs:List Fld) (name t:ByteArray) (w:World) (hr:RF w a n cap fs) (hs:Srt fs) (hn:n<=100000) :
   Calls Tryz.prog 59 #[.slice a n cap,.agg #[.string name,.string t],.func (.func 60) #[] #[]] w fun e w' => e=.returned (.tuple #[.int .i64 (lbF fs name),.bool (hasF fs name)])/\Below w.heap.size w w' := by
 have hl:=hr.len
 have hal:=(Below.refl w.heap.size w).alloc (Nat.le_refl _) (.cells #[.string name,.string t] 53)
 have g0:=World.cell?_alloc_new w #[.string name,.string t] 53 0
 have g1:=World.cell?_alloc_new w #[.string name,.string t] 53 1
 obtain ⟨L,hL⟩:∃L,L=lbF fs name:=⟨_,rfl⟩
 obtain ⟨H,hH⟩:∃H,H=hasF fs name:=⟨_,rfl⟩
 rw [<-hL,<-hH]
 replace hL:=Hd hL
 replace hH:=Hd hH
 replace hl:=Hd hl
 replace hr:=Hd hr
 replace hs:=Hd hs
 replace hal:=Hd hal
 replace g0:=Hd g0
 replace g1:=Hd g1
 go_enter Tryz.func59,Tryz.ntmps59
 go_wp2_with fail
 go_loopw [9,10] (fun si sj wr=>∃i j:Nat,i<=j/\j<=n/\si=.int .i64 i/\sj=.int .i64 j/\(∀k (hk:k<fs.length),k<i->cmpB fs[k].1 name<0)/\(∀k (hk:k<fs.length),j<=k->¬cmpB fs[k].1 name<0)/\Below w.heap.size w wr/\wr.cell? ⟨w.heap.size,0,none⟩=some (.string name)/\wr.cell? ⟨w.heap.size,1,none⟩=some (.string t)) (fun si sj _=>(intOf sj).toNat - (intOf si).toNat)
 case atStart=>exact ⟨0,n,Nat.zero_le _,Nat.le_refl _,rfl,rfl,fun k _ h=>by omega,fun k hk h=>by have:=hl.out;omega,hal.out,g0.out,g1.out⟩
 case round=>
   obtain ⟨i,j,hij,hjn,rfl,rfl,hlo,hhi,hbel,p0,p1⟩:=hrel;replace hlo:=Hd hlo;replace hhi:=Hd hhi;by_cases hlt:i<j
   · obtain ⟨m,hm⟩:∃m,m=(i+j) / 2:=⟨_,rfl⟩
     have hm1:i<=m:=by omega
     have hm2:m<j:=by omega
     obtain ⟨b,o,f,hf,rfl,d0,d1⟩:=hr.out.at (show m<n by omega);replace d0:=Aa hbel d0;replace d1:=Aa hbel d1;replace hf:=Hd hf;replace hm:=Hd hm;go_upto_region 5 with fail
     rw [show ((i:Int)+(j:Int)) / 2=(m:Int) by have:=hm.out;omega];obtain ⟨c,hc⟩:∃c,c=cmpB f.1 name:=⟨_,rfl⟩;have hby:∀W,Calls Tryz.prog 60 #[.agg #[.string f.1,.string f.2],.agg #[.string name,.string t]] W fun e w' => e=.returned (.int .i64 c)/\Below W.heap.size W w' := fun W=>by rw [hc];exact Bj f (name,t) W
     replace hby:=Hd hby;replace hc:=Hd hc;have z1:b<wr.heap.size:=World.block_lt_of_cell? _ _ d0;have z2:w.heap.size<wr.heap.size:=World.block_lt_of_cell? _ _ p0;have i0:(0:Int)<=(m:Int):=by omega
     have i1:(m:Int)<(n:Int):=by omega
     by_cases hcn:c<0
     · refine Ae (by kernel_rfl) (by kernel_rfl) ?_
       repeat (go_big_quiet_step ((go_at_call 60;(with_reducible exact At (hby.out _)))))
       refine wpQuiet_nil ?_;rintro _ ⟨xq,rfl⟩;have hbq:=hbel.trans ((Ab wr xq).mono hbel.size);have pp0:=Aa (Ab wr xq) p0;have pp1:=Aa (Ab wr xq) p1;clear p0 p1 d0 d1;have hlo' : ∀k (hk:k<fs.length),k<m+1->cmpB fs[k].1 name<0:=fun k hk hkm=>by
         obtain ⟨hml,hfe⟩:=List.getElem?_eq_some_iff.1 hf.out;rcases Nat.eq_or_lt_of_le (Nat.le_of_lt_succ hkm) with e | e
         · subst e;rw [hfe,<-hc.out];exact hcn
         · have h1:=List.pairwise_iff_getElem.1 hs.out k m hk hml e
           rw [hfe] at h1;exact As h1 (by rw [<-hc.out];exact hcn)
       replace hlo' := Hd hlo';go_wp2
       go_roundw
       case rel=>exact ⟨m+1,j,by omega,hjn,by go_num,rfl,hlo'.out,hhi.out,hbq,pp0,pp1⟩
       case measure=>simp [intOf];omega
     · have hcn' : ¬c<0:=hcn
       refine Ae (by kernel_rfl) (by kernel_rfl) ?_;repeat (go_big_quiet_step ((go_at_call 60;(with_reducible exact At (hby.out _)))))
       refine wpQuiet_nil ?_;rintro _ ⟨xq,rfl⟩;have hbq:=hbel.trans ((Ab wr xq).mono hbel.size);have pp0:=Aa (Ab wr xq) p0;have pp1:=Aa (Ab wr xq) p1;clear p0 p1 d0 d1;have hhi' : ∀k (hk:k<fs.length),m<=k->¬cmpB fs[k].1 name<0:=fun k hk hkm hneg=>by
         obtain ⟨hml,hfe⟩:=List.getElem?_eq_some_iff.1 hf.out;rcases Nat.eq_or_lt_of_le hkm with e | e
         · subst e;rw [hfe,<-hc.out] at hneg;exact hcn hneg
         · have h1:=List.pairwise_iff_getElem.1 hs.out m k hml hk e
           rw [hfe] at h1;exact hcn (by rw [hc.out];exact As h1 hneg)
       replace hhi' := Hd hhi';go_wp2
       go_roundw
       case rel=>exact ⟨i,m,hm1,by omega,rfl,rfl,hlo.out,hhi'.out,hbq,pp0,pp1⟩
       case measure=>simp [intOf];omega
   · have hij' : i=j:=by omega
     subst hij';obtain rfl:i=L:=by rw [hL.out];exact lbF_of hs.out (by have:=hl.out;omega) hlo.out hhi.out
     by_cases hin:i<n
     · obtain ⟨b,o,f,hf,rfl,d0,d1⟩:=hr.out.at hin
       replace d0:=Aa hbel d0;replace d1:=Aa hbel d1;obtain ⟨c,hc⟩:∃c,c=cmpB f.1 name:=⟨_,rfl⟩;have hHc:H=decide (c=0):=by
         have hf' := hf;rw [hL.out] at hf';have:=hasF_lb hs.out hf';rw [hH.out,Bool.eq_iff_iff,this,hc];simp
       have hby:∀W,Calls Tryz.prog 60 #[.agg #[.string f.1,.string f.2],.agg #[.string name,.string t]] W fun e w' => e=.returned (.int .i64 c)/\Below W.heap.size W w' := fun W=>by rw [hc];exact Bj f (name,t) W
       replace hby:=Hd hby;replace hc:=Hd hc;replace hf:=Hd hf;have z1:b<wr.heap.size:=World.block_lt_of_cell? _ _ d0;have z2:w.heap.size<wr.heap.size:=World.block_lt_of_cell? _ _ p0;have i0:(0:Int)<=(i:Int):=by omega
       have i1:(i:Int)<(n:Int):=by omega
       go_upto_region 8 with fail
       by_cases hc0:c=0
       · obtain rfl:H=true:=by rw [hHc,hc0];rfl
         clear hHc;have hcb:(c == 0)=true:=by simpa using hc0
         replace hc0:=Hd hc0;refine Ae (by kernel_rfl) (by kernel_rfl) ?_;repeat (go_big_quiet_step ((go_at_call 60;(with_reducible exact At (hby.out _)))))
         refine wpQuiet_nil ?_;rintro _ ⟨xq,rfl⟩;have hbq:=hbel.trans ((Ab wr xq).mono hbel.size);clear p0 p1 d0 d1;go_wp2
         go_ret2
         exact ⟨rfl,hbq⟩
       · obtain rfl:H=false:=by rw [hHc];simpa using hc0
         clear hHc;have hcb:(c == 0)=false:=by simpa using hc0
         replace hc0:=Hd hc0;refine Ae (by kernel_rfl) (by kernel_rfl) ?_;repeat (go_big_quiet_step ((go_at_call 60;(with_reducible exact At (hby.out _)))))
         refine wpQuiet_nil ?_;rintro _ ⟨xq,rfl⟩;have hbq:=hbel.trans ((Ab wr xq).mono hbel.size);clear p0 p1 d0 d1;go_wp2
         go_ret2
         exact ⟨rfl,hbq⟩
     · obtain rfl:H=false:=by rw [hH.out];exact hasF_end hs.out (by rw [<-hL.out,hl.out];omega)
       go_upto_region 8 with fail
       refine Ae (by kernel_rfl) (by kernel_rfl) ?_;repeat (go_big_quiet_step (fail))
       refine wpQuiet_nil ?_;rintro _ ⟨xq,rfl⟩;have hbq:=hbel.trans ((Ab wr xq).mono hbel.size);clear p0 p1;go_wp2
       go_ret2
       exact ⟨rfl,hbq⟩
set_option maxRecDepth 100000 in
set_option maxHeartbeats 3200000 in
theorem at_any (k:Int) (t:ByteArray) (a:Option Addr) (n cap:Nat) (fs:List Fld) (name:ByteArray) (w:World) (hr:RF w a n cap fs) (hs:Srt fs) (hn:n<=100000) :
   Calls Tryz.prog 43 #[.agg #[.int .i64 k,.string t,.slice a n cap],.string name] w fun e w' => e=.returned (.tuple #[.int .i64 (lbF fs name),.bool (hasF fs name)])/\Below w.heap.size w w' := by
 have hal:=(Below.refl w.heap.size w).alloc (Nat.le_refl _) (.cells #[.int .i64 k,.string t,.slice a n cap] 24)
 have hx:=hr.below hal
 replace hal:=Hd hal
 replace hx:=Hd hx
 replace hs:=Hd hs
 clear hr
 go_enter Tryz.func43,Tryz.ntmps43
 go_wp2_with fail
 refine (bsearch_any a n cap fs name ⟨#[]⟩ _ hx.out hs.out hn).mono ?_
 rintro e w1 ⟨rfl,hb1⟩
 have hbel:=hal.out.trans (hb1.mono hal.out.size)
 clear hb1
 go_wp2
 go_ret2
 exact ⟨rfl,hbel⟩
end Go.Proofs.YteoalcmhdoopnaaGreatDoor
