/- internal/strconv.special; atof64 where a quotient of whole numbers is asked. -/
import Derived.Test.YtagkgfniihiinaaGreatDoorReadF
import Derived.Test.YtagkgfniihiinaaGreatDoorJ21
set_option linter.all false
namespace Go.Proofs.YtagkgfniihiinaaGreatDoor
open Go.RowKit
theorem Cd (r:Nat) (w:World):(callFunc 211 #[.int .u64 (r:Int)]).run Tryz.prog w=.ok (.value (.float .f64 r)) w:=by kernel_rfl
theorem common_digit {s:ByteArray} {c:UInt8} {l:List UInt8} (h:s.data.toList=c :: l) (hc:isD c=true) (hs:s.size<=1000) (w:World) :
   Calls Tryz.prog 236 #[.string s,.string ⟨#[105,110,102,105,110,105,116,121]⟩] w fun e w' => e=.returned (.int .i64 0)/\w' = w:=by
 obtain ⟨hlt,hc0,_⟩:=Af (s:=s) (k:=0) (c:=c) (l:=l) h
 have hd:48<=c.toNat/\c.toNat<=57:=by simp [isD] at hc;exact hc
 have h0:(0:Int)<(s.size:Int):=by omega
 have hsz:(s.size:Int)<=1000:=by omega
 have k1:¬(65:Int)<=(c.toNat:Int):=by omega
 have k2:((c.toNat:Int) != 105)=true:=by simp;omega
 have k3:¬(c.toNat:Int)=105:=by omega
 have k4:((⟨#[105,110,102,105,110,105,116,121]⟩:ByteArray)[0]'(by decide)).toNat=105:=rfl
 obtain ⟨n,hn⟩:∃n:Int,min (8:Int) (s.size:Int)=n:=⟨_,rfl⟩
 have hn0:0<n:=by omega
 have hn1:n<=8:=by omega
 clear h hd hc
 go_enter Tryz.func236,Tryz.ntmps236
 go_wp2_with fail
 go_loop [6,7] (fun i b=>i=.int .i64 0) (fun _ _=>0)
 case atStart=>rfl
 case round=>
   obtain rfl:=hrel;go_wp2;go_ret;exact ⟨rfl,rfl⟩
set_option maxRecDepth 100000 in
set_option maxHeartbeats 1600000 in
theorem Dy {s:ByteArray} {neg:Bool} {c:UInt8} {l:List UInt8} (h:s.data.toList=(if neg then [45] else [])++c :: l) (hc:isD c=true) (hs:s.size<=1000) (w:World) :
   Calls Tryz.prog 201 #[.string s] w fun e w' => e=.returned (.tuple #[.float .f64 0,.int .i64 0,.bool false])/\w' = w:=by
 have hd:48<=c.toNat/\c.toNat<=57:=by simp [isD] at hc;exact hc
 have hsz:(s.size:Int)<=1000:=by omega
 cases neg with
 | false=>
   have h' : s.data.toList.drop 0=c :: l:=h;obtain ⟨hlt,hc0,_⟩:=Af h';have h0:(0:Int)<(s.size:Int):=by omega
   have h00:((s.size:Int) == 0)=false:=beq_eq_false_iff_ne.2 (by omega);have hse:¬s=ByteArray.empty:=fun e=>by rw [Ah,e] at hlt;exact absurd hlt (by decide)
   have k1:((c.toNat:Int) == 43)=false:=by simp;omega
   have k2:((c.toNat:Int) == 45)=false:=by simp;omega
   have k3:((c.toNat:Int) == 105)=false:=by simp;omega
   have k4:((c.toNat:Int) == 73)=false:=by simp;omega
   have k5:((c.toNat:Int) == 110)=false:=by simp;omega
   have k6:((c.toNat:Int) == 78)=false:=by simp;omega
   clear h h' hd hc
   go_enter Tryz.func201,Tryz.ntmps201
   go_wp2;exact bodyPost_ret (v:=.tuple #[.float .f64 0,.int .i64 0,.bool false]) (by simp [results,Tryz.results201,go_sem]) rfl ⟨rfl,rfl⟩
 | true=>
   have h' : s.data.toList.drop 0=45 :: c :: l:=h;obtain ⟨hlt,hc0,hd1⟩:=Af h';have h0:(0:Int)<(s.size:Int):=by omega
   have h00:((s.size:Int) == 0)=false:=beq_eq_false_iff_ne.2 (by omega);have hse:¬s=ByteArray.empty:=fun e=>by rw [Ah,e] at hlt;exact absurd hlt (by decide)
   obtain ⟨s1,hs1⟩:∃s1,s.extract 1 s.size=s1:=⟨_,rfl⟩;have hs1l:s1.data.toList=c :: l:=by
     rw [<-hs1,ByteArray.data_extract,Array.toList_extract,List.extract_eq_take_drop];rw [Nat.zero_add] at hd1;rw [hd1];refine List.take_of_length_le ?_;have:=congrArg List.length hd1;rw [List.length_drop,<-Ah] at this;omega
   have hs1n:s1.size<=1000:=by
     rw [Ah,hs1l];have:=congrArg List.length h;rw [<-Ah] at this;simp at this ⊢;omega
   have hcm:=common_digit hs1l hc hs1n w;have h1i:(1:Int)<=(s.size:Int):=by omega
   have e45:((45:UInt8).toNat:Int)=45:=rfl;replace hcm:=Hd hcm;clear h h' hd hc hs1l hs1n hd1
   go_enter Tryz.func201,Tryz.ntmps201
   go_wp2_with fail
   refine hcm.out.mono ?_;rintro e w' ⟨rfl,hww⟩;obtain rfl:=hww.symm;clear hww;go_wp2;exact bodyPost_ret (v:=.tuple #[.float .f64 0,.int .i64 0,.bool false]) (by simp [results,Tryz.results201,go_sem]) rfl ⟨rfl,rfl⟩
set_option maxRecDepth 100000 in
set_option maxHeartbeats 1600000 in
theorem atof_zero {s:ByteArray} {neg d:Bool} {L:List UInt8} {m:Nat} {x:Int} (h:FTxt s neg d L m x) (h0:Ar L=0) {w:World} (hP:Par w) :
   Calls Tryz.prog 164 #[.string s] w fun e w' => e=.returned (.tuple #[.float .f64 (if neg then 9223372036854775808 else 0),.int .i64 (s.size:Int),.nilIface])/\w' = w:=by
 have hrf:=Cw h w
 obtain ⟨⟨c,body,rest,hs,hc,_⟩,hsz,_⟩:=h
 have hsp:=Dy hs hc hsz w
 have hx:expF d L m x=0:=by unfold expF;rw [if_pos h0]
 rw [h0,hx] at hrf
 have hopt:=hP.opt
 have hb:=B9 neg
 have hsz2:(s.size:Int)<=1000:=by omega
 have hf:=Cd
 have o1:bits .or .u64 9223372036854775808 0=9223372036854775808:=by decide
 have o2:bits .or .u64 0 0=0:=by decide
 have f1:∀w,(callFunc 211 #[.int .u64 9223372036854775808]).run Tryz.prog w=.ok (.value (.float .f64 9223372036854775808)) w:=fun w=>Cd 9223372036854775808 w
 have f2:∀w,(callFunc 211 #[.int .u64 0]).run Tryz.prog w=.ok (.value (.float .f64 0)) w:=fun w=>Cd 0 w
 obtain ⟨tr,htr⟩:∃tr,tr=A6 L:=⟨_,rfl⟩
 rw [<-htr] at hrf
 replace hrf:=Hd hrf
 replace hsp:=Hd hsp
 replace hb:=Hd hb
 clear h0 hx hs hc htr hf
 cases neg
 all_goals
   go_enter Tryz.func164,Tryz.ntmps164
   go_wp2_with fail
   refine hsp.out.mono ?_
   rintro e w' ⟨rfl,hww⟩
   obtain rfl:=hww.symm
   clear hww
   go_wp2_with fail
   refine hrf.out.mono ?_
   rintro e w' ⟨rfl,hww⟩
   obtain rfl:=hww.symm
   clear hww
   go_wp2_with fail
   refine (hb.out _).mono ?_
   rintro e w' ⟨rfl,hww⟩
   obtain rfl:=hww.symm
   clear hww
   go_wp2
 · exact bodyPost_ret (v:=.tuple #[.float .f64 0,.int .i64 (s.size:Int),.nilIface]) (by simp [results,Tryz.results164,go_sem]) rfl ⟨rfl,rfl⟩
 · exact bodyPost_ret (v:=.tuple #[.float .f64 9223372036854775808,.int .i64 (s.size:Int),.nilIface]) (by simp [results,Tryz.results164,go_sem]) rfl ⟨rfl,rfl⟩
end Go.Proofs.YtagkgfniihiinaaGreatDoor
