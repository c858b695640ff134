/- strings.ContainsAny(s, "\r\n") at every text. -/
import Derived.Test.YtfaihaoajdcjbaaGreatDoorBase
import Derived.Test.YtfaihaoajdcjbaaGreatDoorShelf
import Derived.Laws.Runes
import Derived.Outline
import Derived.Laws.RangeAny
import Derived.Deep.LoopGhost
import Derived.Deep.QuietTactic
import Derived.BigQuiet
set_option linter.all false
namespace Go.Proofs.YtfaihaoajdcjbaaGreatDoor
open Go.RowKit
abbrev crlf:ByteArray:=⟨#[13,10]⟩
set_option maxRecDepth 1000000 in
set_option maxHeartbeats 1600000 in
theorem irune_err (w:World):Calls Tryz.prog 175 #[.string crlf,.int .i32 65533] w fun e w' => e=.returned (.int .i64 (-1))/\Below w.heap.size w w' := by
 have hx0:=fun ty=>run_next_ascii (P:=Tryz.prog) w crlf 0 ty (by decide) (by decide);have hx1:=fun ty=>run_next_ascii (P:=Tryz.prog) w crlf 1 ty (by decide) (by decide);have hx2:=fun ty=>run_next_end (P:=Tryz.prog) w crlf 2 ty (by decide);have hb:∀p,Below w.heap.size w (w.iter crlf p):=fun p=>(Below.refl _ _).alloc (Nat.le_refl _) _;replace hb:=Hd hb
 go_enter Tryz.func175,Tryz.ntmps175
 go_wp2_with fail
 go_loopg [5,6] 2 (fun g _ _ wx=>∃i:Nat,i+g=2/\wx=w.iter crlf i)
 case atStart=>exact ⟨0,by omega,rfl⟩
 case round=>
   obtain ⟨i,hig,rfl⟩:=hrel;rcases (by omega:i=0\/i=1\/i=2) with rfl | rfl | rfl
   · obtain rfl:gk=2:=by omega
     go_wp2
     go_roundg 1
     case measure=>omega
     case rel=>exact ⟨1,by omega,rfl⟩
   · obtain rfl:gk=1:=by omega
     go_wp2
     go_roundg 0
     case measure=>omega
     case rel=>exact ⟨2,by omega,rfl⟩
   · go_wp2
     go_ret;exact ⟨rfl,hb.out _⟩
set_option maxRecDepth 1000000 in
set_option maxHeartbeats 1600000 in
theorem irune_bad (r:Int) (h0:128<=r) (hne:r≠65533) (hv:Lib.validRune r=false) (w:World):Calls Tryz.prog 175 #[.string crlf,.int .i32 r] w fun e w' => e=.returned (.int .i64 (-1))/\Below w.heap.size w w' := by
 have h1:¬r<128:=by omega
 have h2:(r == 65533)=false:=by simpa using hne
 replace hv:=Hd hv;clear hne
 go_enter Tryz.func175,Tryz.ntmps175
 go_wp2_with (go_at_call 190;refine (Tryz.utf8_ValidRune r _).mono ?_;rintro e w' ⟨rfl,rfl⟩;rw [hv.out])
 go_ret;exact ⟨rfl,Below.refl _ _⟩
set_option maxRecDepth 1000000 in
set_option maxHeartbeats 1600000 in
theorem irune_good (r:Int) (h0:128<=r) (hne:r≠65533) (hv:Lib.validRune r=true) (w:World):Calls Tryz.prog 175 #[.string crlf,.int .i32 r] w fun e w' => e=.returned (.int .i64 (-1))/\Below w.heap.size w w' := by
 have h1:¬r<128:=by omega
 have h2:(r == 65533)=false:=by simpa using hne
 obtain ⟨f1,f2,f3⟩:=encode_facts r (by rw [validRune_eq];exact hv) h0;have hib:=fun (s:ByteArray) (c:Int) (W:World)=>Tryz.strings_IndexByte s c W;generalize ht:Utf8.encode r=t at f1 f2 f3;replace hv:=Hd hv;replace hib:=Hd hib;clear hne;by_cases hL:3<=t.size
 · go_enter Tryz.func175,Tryz.ntmps175
   go_wp2_with (go_at_call 190;refine (Tryz.utf8_ValidRune r _).mono ?_;rintro e w' ⟨rfl,rfl⟩;rw [hv.out])
   go_step3
   go_wp2;refine wp_loop_rounds 1 ?_;rw [rounds_succ];have hge:¬((t.size:Int) - 1<2):=by omega
   go_wp2;go_ret;exact ⟨rfl,Below.refl _ _⟩
 · have hL2:t.size=2:=by omega
   obtain ⟨b,hb⟩:∃b,t[1]'(by omega)=b:=⟨_,rfl⟩;have hb1:128<=b.toNat:=by
     have h:=f3 (by omega);have e:t[t.size - 1]'(by omega)=t[1]'(by omega):=by congr 1;omega
     rw [e,hb] at h;exact h
   have hb2:(((crlf[1]'(by decide)).toNat:Int) != (b.toNat:Int))=true:=by
     show ((10:Int) != (b.toNat:Int))=true;simp;omega
   have hb3:((10:Int) == (b.toNat:Int))=false:=by simp;omega
   clear f3;have hw2:IntKind.i64.wrap 2=2:=by decide
   have hsl:∀W,(Instr.slice 9 (.string crlf) (some (.int .i64 2)) none none).run Tryz.prog W=.ok (.string ⟨#[]⟩) W:=fun W=>by kernel_rfl
   have hno:∀c:UInt8,Lib.indexByte (ByteArray.data ⟨#[]⟩).toList c=-1:=fun c=>rfl;have hno' : Lib.indexByte [] ((b.toNat:Int)).toNat.toUInt8=-1:=rfl
   go_enter Tryz.func175,Tryz.ntmps175
   go_wp2_with (go_at_call 190;refine (Tryz.utf8_ValidRune r _).mono ?_;rintro e w' ⟨rfl,rfl⟩;rw [hv.out])
   go_step3
   go_wp2;refine wp_loop_rounds 1 ?_;rw [rounds_succ];go_wp2
   go_step3
   go_wp2
   go_quiet (fail)
   go_wp2;have hbq:Below w'.heap.size w' (w'.drewN nq):=Below.drewN (Below.refl _ _);generalize w'.drewN nq=w2 at *
   go_quiet ((go_at_call 189;exact Calls.quiet_of_same (hib.out _ _ _)))
   go_wp2;rw [Exit.noGoto_ret];go_wp2;rw [Exit.noGoto_ret];go_ret;exact ⟨rfl,Below.drewN hbq⟩
theorem irune_any (r:Int) (h0:128<=r) (w:World):Calls Tryz.prog 175 #[.string crlf,.int .i32 r] w fun e w' => e=.returned (.int .i64 (-1))/\Below w.heap.size w w' := by
 by_cases hne:r=65533
 · subst hne;exact irune_err w
 · cases hv:Lib.validRune r with
   | false=>exact irune_bad r h0 hne hv w
   | true=>exact irune_good r h0 hne hv w
theorem get_bang (s:ByteArray) (k:Nat) (h:k<s.size):s.get! k=s[k]'h:=by
 simp [ByteArray.get!,getElem!_pos,h];rfl
set_option maxRecDepth 100000 in
theorem E1 (s:ByteArray) (i:Nat) (h:i<s.size) (ha:128<=(s[i]'h).toNat) :
   i+(Utf8.decode s i).2<=s.size/\∀j (hj:j<s.size),i<=j->j<i+(Utf8.decode s i).2->128<=(s[j]'hj).toNat:=by
 have h0:(s.get! (i+0)).toNat=(s[i]'h).toNat:=by rw [get_at s i h]
 have one:i+1<=s.size/\∀j (hj:j<s.size),i<=j->j<i+1->128<=(s[j]'hj).toNat:=⟨h,fun j hj h1 h2=>by
   obtain rfl:j=i:=by omega
   exact ha⟩
 have cont:∀k,(decide (i+k<s.size) && (s.get! (i+k)).toNat / 64 == 2)=true->∃hk:i+k<s.size,128<=(s[i+k]'hk).toNat:=fun k hk=>by
   simp only [Bool.and_eq_true,decide_eq_true_eq,beq_iff_eq] at hk;obtain ⟨h1,h2⟩:=hk;rw [get_bang s _ h1] at h2;exact ⟨h1,by omega⟩
 have hn:¬(s[i]'h).toNat<128:=by omega
 clear h0;simp only [Utf8.decode,get_at s i h,hn,if_false];split
 · rename_i h1
   split
   · obtain ⟨k1,q1⟩:=cont 1 (by simp only [Bool.and_eq_true] at h1 ⊢;exact h1.2)
     refine ⟨by omega,fun j hj h2 h3=>?_⟩;rcases (by omega:j=i\/j=i+1) with rfl | rfl
     · exact ha
     · exact q1
   · exact one
 · split
   · rename_i h1
     split
     · obtain ⟨k1,q1⟩:=cont 1 (by simp only [Bool.and_eq_true] at h1 ⊢;exact h1.1.2)
       obtain ⟨k2,q2⟩:=cont 2 (by simp only [Bool.and_eq_true] at h1 ⊢;exact h1.2);refine ⟨by omega,fun j hj h2 h3=>?_⟩;rcases (by omega:j=i\/j=i+1\/j=i+2) with rfl | rfl | rfl
       · exact ha
       · exact q1
       · exact q2
     · exact one
   · split
     · rename_i h1
       split
       · obtain ⟨k1,q1⟩:=cont 1 (by simp only [Bool.and_eq_true] at h1 ⊢;exact h1.1.1.2)
         obtain ⟨k2,q2⟩:=cont 2 (by simp only [Bool.and_eq_true] at h1 ⊢;exact h1.1.2);obtain ⟨k3,q3⟩:=cont 3 (by simp only [Bool.and_eq_true] at h1 ⊢;exact h1.2);refine ⟨by omega,fun j hj h2 h3=>?_⟩;rcases (by omega:j=i\/j=i+1\/j=i+2\/j=i+3) with rfl | rfl | rfl | rfl
         · exact ha
         · exact q1
         · exact q2
         · exact q3
       · exact one
     · exact one
theorem noAny_skip {s:ByteArray} {i:Nat} (hn:Lib.NoAny s.data.toList [13,10] i) (h:i<s.size) (ha:128<=(s[i]'h).toNat):Lib.NoAny s.data.toList [13,10] (i+(Utf8.decode s i).2):=by
 intro j b hj hb;by_cases hji:j<i
 · exact hn j b hji hb
 · obtain ⟨_,h2⟩:=E1 s i h ha
   obtain ⟨hl,he⟩:=List.getElem?_eq_some_iff.1 hb;have hjs:j<s.size:=by simpa using hl
   have:=h2 j hjs (by omega) hj;have e:b=s[j]'hjs:=by rw [<-he];rfl
   rw [e];simp;constructor
   · intro h;rw [h] at this;simp at this
   · intro h;rw [h] at this;simp at this
end Go.Proofs.YtfaihaoajdcjbaaGreatDoor
