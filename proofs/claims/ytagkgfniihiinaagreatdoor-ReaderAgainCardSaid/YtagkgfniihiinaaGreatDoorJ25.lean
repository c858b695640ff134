/- The number that a text is: Go's own parsing, the numeral, and the document's digit by digit are one. No program in sight. -/
import Derived.Test.YtagkgfniihiinaaGreatDoorJ52
import Derived.Lib.ParseIntBTie
import Derived.Lib.ItoaNum
import Derived.Test.YtagkgfniihiinaaGreatDoorShelf
import Derived.Test.YtagkgfniihiinaaGreatDoorProg
import Derived.Lib.IndexBytes
import Derived.Deep.LoopGhost
import Derived.Test.YtagkgfniihiinaaGreatDoorNums
import Derived.Lib.SmallJoins
import Derived.Lib.LaidTab
import Derived.Lib.AppendIntMem
set_option linter.all false
namespace Go.Proofs.YtagkgfniihiinaaGreatDoor
open Go.RowKit Go
def least:Int:=-9223372036854775808
def wP (l:List UInt8):Option Int:=match Lib.atoiAll l with
 | .ok v=>if Lib.itoa v=l then some v else none
 | _=>none
def dig (c:UInt8):Prop:=48<=c.toNat/\c.toNat<=57
def step (a:Nat) (c:UInt8):Nat:=a * 10+(c.toNat - 48)
def valF (a:Nat) (l:List UInt8):Nat:=l.foldl step a
theorem Ef (a:Nat) (c:UInt8) (l:List UInt8):valF a (c :: l)=valF (a * 10+(c.toNat - 48)) l:=by unfold valF;rw [List.foldl_cons];rfl
theorem valF_nil (a:Nat):valF a []=a:=rfl
theorem valF_append:∀(l:List UInt8) (a:Nat) (m:List UInt8),valF a (l++m)=valF (valF a l) m
 | [],_,_=>rfl
 | c :: l,a,m=>by rw [List.cons_append,Ef,Ef];exact valF_append l _ m
theorem valF_le:∀(l:List UInt8) (a:Nat),a * 10 ^ l.length<=valF a l
 | [],a=>by rw [valF_nil];simp
 | c :: l,a=>by
   have h:=valF_le l (a * 10+(c.toNat - 48));rw [Ef,List.length_cons,Nat.pow_succ];refine Nat.le_trans ?_ h;rw [Nat.add_mul,Nat.mul_assoc,Nat.mul_comm 10];omega
theorem valF_ge (l:List UInt8) (a:Nat):a<=valF a l:=Nat.le_trans (Nat.le_mul_of_pos_right a (Nat.pow_pos (by decide))) (valF_le l a)
theorem byte_of {k:Nat} (h:k<10):(UInt8.ofNat (48+k)).toNat=48+k:=UInt8.toNat_ofNat_of_lt' (by have:UInt8.size=256:=rfl;omega)
theorem dec_dig:∀(u:Nat),∀c∈Lib.decDigits u,dig c:=by
 intro u;induction u using Nat.strongRecOn with
 | _ u ih=>
   intro c hc;rw [Lib.decDigits] at hc;split at hc
   · rename_i h
     simp only [List.mem_singleton] at hc;subst hc;unfold dig;rw [byte_of h];omega
   · rename_i h
     rcases List.mem_append.1 hc with hc | hc
     · exact ih (u / 10) (by omega) c hc
     · simp only [List.mem_singleton] at hc
       subst hc;unfold dig;rw [byte_of (by omega)];omega
theorem decN_val:∀(u:Nat),valF 0 (Lib.decDigits u)=u:=by
 intro u;induction u using Nat.strongRecOn with
 | _ u ih=>
   rw [Lib.decDigits];split
   · rename_i h
     simp only [Ef,valF_nil,byte_of h];omega
   · rename_i h
     rw [valF_append,ih (u / 10) (by omega)];simp only [Ef,valF_nil,byte_of (show u % 10<10 by omega)];omega
theorem dec_pos (u:Nat):Lib.decDigits u≠[]:=by
 rw [Lib.decDigits];split<;>simp
theorem parse_dig:∀(l:List UInt8) (a:Nat),(∀c∈l,dig c)->valF a l<18446744073709551616->Lib.parseUint10 a l=.ok (valF a l)
 | [],_,_,_=>rfl
 | c :: l,a,hd,hv=>by
   have hc:=hd c (by simp);unfold dig at hc;rw [Ef] at hv ⊢;have h1:=valF_ge l (a * 10+(c.toNat - 48));rw [Lib.parseUint10,if_pos hc,if_neg (by omega),if_neg (by omega)];exact parse_dig l _ (fun x hx=>hd x (List.mem_cons_of_mem _ hx)) hv
theorem parse_dec (u:Nat) (h:u<18446744073709551616):Lib.parseMag (Lib.decDigits u)=.ok u:=by
 unfold Lib.parseMag;rw [if_neg (dec_pos u),parse_dig _ _ (dec_dig u) (by rw [decN_val];exact h),decN_val]
theorem atoi_itoa {v:Int} (h0:-9223372036854775808<=v) (h1:v<=9223372036854775807):Lib.atoiAll (Lib.itoa v)=.ok v:=by
 unfold Lib.itoa;split
 · rename_i h
   rw [Lib.atoiAll_minus,parse_dec _ (by omega)];simp only [Lib.signed];rw [if_neg (by omega)];congr 1;omega
 · rename_i h
   have hp:=parse_dec v.toNat (by omega);cases hl:Lib.decDigits v.toNat with
   | nil=>exact absurd hl (dec_pos _)
   | cons c r=>
     have hc:=dec_dig v.toNat c (by rw [hl];simp);unfold dig at hc;rw [Lib.atoiAll_plain c r (by omega) (by omega),<-hl,hp];simp only [Lib.signless];rw [if_neg (by omega)];congr 1;omega
theorem wP_iff {l:List UInt8} {v:Int}:wP l=some v ↔ (-9223372036854775808<=v/\v<=9223372036854775807)/\Lib.itoa v=l:=by
 unfold wP;constructor
 · intro h
   split at h
   · rename_i u hu
     split at h
     · rename_i hi
       simp only [Option.some.injEq] at h;subst h;exact ⟨Lib.atoiAll_bounds hu,hi⟩
     · cases h
   · cases h
 · rintro ⟨⟨h0,h1⟩,rfl⟩
   rw [atoi_itoa h0 h1];simp
end Go.Proofs.YtagkgfniihiinaaGreatDoor
namespace Go.Proofs.YtagkgfniihiinaaGreatDoor
open Go.RowKit
def NumOr (r:Option Int) (err:Int) (w:World) (e:Ending) (w' : World):Prop:=(e=.returned (.tuple #[.int .i64 (r.getD 0),.int .i64 (if r.isSome then 0 else err)]))/\Below w.heap.size w w'
theorem numOr_none {w w' : World} {err:Int} {e:Ending} (h:e=.returned (.tuple #[.int .i64 0,.int .i64 err])) (hb:Below w.heap.size w w'):NumOr none err w e w' := ⟨h,hb⟩
theorem numOr_some {v:Int} {w w' : World} {err:Int} {e:Ending} (h:e=.returned (.tuple #[.int .i64 v,.int .i64 0])) (hb:Below w.heap.size w w'):NumOr (some v) err w e w' := ⟨h,hb⟩
end Go.Proofs.YtagkgfniihiinaaGreatDoor
namespace Go.Proofs.YtagkgfniihiinaaGreatDoor
open Go.RowKit Go.Joins
set_option maxRecDepth 100000 in
set_option maxHeartbeats 3200000 in
theorem wparse_any (s:ByteArray) (hm:s.size<=281474976710656) (w:World) (hN:Nums w):Calls Tryz.prog 88 #[.string s] w (NumOr (wP s.data.toList) 11 w):=by
 cases ha:Lib.parseIntB 64 s.data.toList with
 | ok v=>
   have ha' := ha;rw [Lib.parseIntB_64] at ha';have hv:=Lib.atoiAll_bounds ha';obtain ⟨v0,v1⟩:=hv;obtain ⟨T,hT⟩:∃T:ByteArray,T=⟨(Lib.itoa v).toArray⟩:=⟨_,rfl⟩;by_cases he:T=s
   · have hw:wP s.data.toList=some v:=by unfold wP;rw [ha'];simp only;rw [if_pos];rw [<-he,hT]
     rw [hw];have hb:=str_eq he;have hb' : (T.toList != s.toList)=false:=by simp [bne,hb]
     replace ha:=Hd ha;replace hN:=Hd hN;replace hT:=Hd hT;clear hw ha' he
     go_enter Tryz.func88,Tryz.ntmps88
     go_wp2_with fail
     refine (Tryz.strconv_ParseInt_10_at64_ok s (by omega) v ha.out _).mono ?_;rintro e w1 ⟨rfl,hw1⟩;have hb1:Below w.heap.size w w1:=by
       rcases hw1 with rfl | ⟨t,rfl⟩
       · exact Below.refl _ _
       · exact below_bytesWorld _ _ _ _ (Nat.le_refl _)
     have hN1:=hN.out.below hb1;replace hN1:=Hd hN1;clear hw1;go_wp2_with fail
     refine (wtext_any v v0 v1 _ hN1.out).mono ?_;rw [<-hT.out];rintro e w2 ⟨rfl,hb2⟩;have hb3:=hb1.trans (hb2.mono hb1.size);clear hb1 hb2;go_wp2
     go_ret2
     exact numOr_some rfl hb3
   · have hw:wP s.data.toList=none:=by unfold wP;rw [ha'];simp only;rw [if_neg];intro e;exact he (by rw [hT,e])
     rw [hw];have hb:=str_ne he;have hb' : (T.toList != s.toList)=true:=by simp [bne,hb]
     replace ha:=Hd ha;replace hN:=Hd hN;replace hT:=Hd hT;clear hw ha' he
     go_enter Tryz.func88,Tryz.ntmps88
     go_wp2_with fail
     refine (Tryz.strconv_ParseInt_10_at64_ok s (by omega) v ha.out _).mono ?_;rintro e w1 ⟨rfl,hw1⟩;have hb1:Below w.heap.size w w1:=by
       rcases hw1 with rfl | ⟨t,rfl⟩
       · exact Below.refl _ _
       · exact below_bytesWorld _ _ _ _ (Nat.le_refl _)
     have hN1:=hN.out.below hb1;replace hN1:=Hd hN1;clear hw1;go_wp2_with fail
     refine (wtext_any v v0 v1 _ hN1.out).mono ?_;rw [<-hT.out];rintro e w2 ⟨rfl,hb2⟩;have hb3:=hb1.trans (hb2.mono hb1.size);clear hb1 hb2;go_wp2
     go_ret2
     exact numOr_none rfl hb3
 | «syntax»=>
   have hw:wP s.data.toList=none:=by unfold wP;rw [<-Lib.parseIntB_64,ha]
   rw [hw];obtain ⟨tp,p,hs⟩:=hN.syn;replace ha:=Hd ha;replace hs:=Hd hs;clear hw hN
   go_enter Tryz.func88,Tryz.ntmps88
   go_wp2_with fail
   refine (Tryz.strconv_ParseInt_10_at64_syntax_var s hm ha.out tp p _ hs.out).mono ?_;rintro e w1 ⟨N,rfl,-,-,hb1⟩;go_wp2
   go_ret2
   exact numOr_none rfl hb1
 | range=>
   have hw:wP s.data.toList=none:=by unfold wP;rw [<-Lib.parseIntB_64,ha]
   rw [hw];obtain ⟨tp,p,hs⟩:=hN.rng;replace ha:=Hd ha;replace hs:=Hd hs;clear hw hN
   go_enter Tryz.func88,Tryz.ntmps88
   go_wp2_with fail
   refine (Tryz.strconv_ParseInt_10_at64_range_var s hm ha.out tp p _ hs.out).mono ?_;rintro e w1 ⟨N,rfl,-,-,hb1⟩;go_wp2
   go_ret2
   exact numOr_none rfl hb1
end Go.Proofs.YtagkgfniihiinaaGreatDoor
