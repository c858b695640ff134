/- The reader's parts: how it stops; the kind of a mark. -/
import Derived.Test.YtfaihaoajdcjbaaGreatDoorBase
import Derived.Test.YtfaihaoajdcjbaaGreatDoorShelf
import Derived.Test.YtfaihaoajdcjbaaGreatDoorProg
import Derived.Recover
import Derived.Laws.Pointers
set_option linter.all false
namespace Go.Proofs.YtfaihaoajdcjbaaGreatDoor
open Go.RowKit
def Bf (n:Nat):Ending:=.panicked [{ v:=.iface 121 (.agg #[.int .i64 (n:Int)]),recovered:=false }]
theorem Bu (w:World):Calls Tryz.prog 98 #[] w fun e w' => e=Bf 0/\w' = w:=by
 go_enter Tryz.func98,Tryz.ntmps98
 go_wp2;exact ⟨rfl,rfl,rfl⟩
theorem Au (w:World):Calls Tryz.prog 100 #[] w fun e w' => e=Bf 51/\w' = w:=by
 go_enter Tryz.func100,Tryz.ntmps100
 go_wp2;exact ⟨rfl,rfl,rfl⟩
def Ae (c:UInt8):Nat:=
 if c=43 then 1 else if c=45 then 2 else if c=58 then 3 else if c=36 then 4 else if c=42 then 5 else if c=95 then 6 else if c=44 then 7 else if c=35 then 8 else if c=40 then 9 else if c=33 then 10 else if c=61 then 11 else if c=37 then 12 else if c=126 then 13 else if c=62 then 14 else 0
theorem Ba {c:UInt8} {m:Nat} (h:c≠UInt8.ofNat m) (hm:m<256:=by decide):((c.toNat:Int) == (m:Int))=false:=by
 rw [beq_eq_false_iff_ne];intro e;refine h (UInt8.toNat_inj.1 ?_);rw [UInt8.toNat_ofNat_of_lt' (by have:UInt8.size=256:=rfl;omega)];omega
set_option maxHeartbeats 1600000 in
theorem kinds_no (c:UInt8) (h43:c≠43) (h45:c≠45) (h58:c≠58) (h36:c≠36) (h42:c≠42) (h95:c≠95) (h44:c≠44) (h35:c≠35) (h40:c≠40) (h33:c≠33) (h61:c≠61) (h37:c≠37) (h126:c≠126) (h62:c≠62) (w:World):Calls Tryz.prog 99 #[.int .u8 (c.toNat:Int)] w fun e w' => e=.returned (.int .i64 (0:Nat))/\w' = w:=by
 have n43:((c.toNat:Int) == 43)=false:=Ba h43;have n45:((c.toNat:Int) == 45)=false:=Ba h45;have n58:((c.toNat:Int) == 58)=false:=Ba h58;have n36:((c.toNat:Int) == 36)=false:=Ba h36;have n42:((c.toNat:Int) == 42)=false:=Ba h42;have n95:((c.toNat:Int) == 95)=false:=Ba h95;have n44:((c.toNat:Int) == 44)=false:=Ba h44;have n35:((c.toNat:Int) == 35)=false:=Ba h35;have n40:((c.toNat:Int) == 40)=false:=Ba h40;have n33:((c.toNat:Int) == 33)=false:=Ba h33;have n61:((c.toNat:Int) == 61)=false:=Ba h61;have n37:((c.toNat:Int) == 37)=false:=Ba h37;have n126:((c.toNat:Int) == 126)=false:=Ba h126;have n62:((c.toNat:Int) == 62)=false:=Ba h62;clear h43 h45 h58 h36 h42 h95 h44 h35 h40 h33 h61 h37 h126 h62
 go_enter Tryz.func99,Tryz.ntmps99
 go_wp2;go_ret;exact ⟨rfl,rfl⟩
set_option maxHeartbeats 3200000 in
theorem kinds_any (c:UInt8) (w:World):Calls Tryz.prog 99 #[.int .u8 (c.toNat:Int)] w fun e w' => e=.returned (.int .i64 (Ae c:Int))/\w' = w:=by
 by_cases h43:c=43
 · subst h43
   go_enter Tryz.func99,Tryz.ntmps99
   go_wp2;go_ret;exact ⟨rfl,rfl⟩
 by_cases h45:c=45
 · subst h45
   go_enter Tryz.func99,Tryz.ntmps99
   go_wp2;go_ret;exact ⟨rfl,rfl⟩
 by_cases h58:c=58
 · subst h58
   go_enter Tryz.func99,Tryz.ntmps99
   go_wp2;go_ret;exact ⟨rfl,rfl⟩
 by_cases h36:c=36
 · subst h36
   go_enter Tryz.func99,Tryz.ntmps99
   go_wp2;go_ret;exact ⟨rfl,rfl⟩
 by_cases h42:c=42
 · subst h42
   go_enter Tryz.func99,Tryz.ntmps99
   go_wp2;go_ret;exact ⟨rfl,rfl⟩
 by_cases h95:c=95
 · subst h95
   go_enter Tryz.func99,Tryz.ntmps99
   go_wp2;go_ret;exact ⟨rfl,rfl⟩
 by_cases h44:c=44
 · subst h44
   go_enter Tryz.func99,Tryz.ntmps99
   go_wp2;go_ret;exact ⟨rfl,rfl⟩
 by_cases h35:c=35
 · subst h35
   go_enter Tryz.func99,Tryz.ntmps99
   go_wp2;go_ret;exact ⟨rfl,rfl⟩
 by_cases h40:c=40
 · subst h40
   go_enter Tryz.func99,Tryz.ntmps99
   go_wp2;go_ret;exact ⟨rfl,rfl⟩
 by_cases h33:c=33
 · subst h33
   go_enter Tryz.func99,Tryz.ntmps99
   go_wp2;go_ret;exact ⟨rfl,rfl⟩
 by_cases h61:c=61
 · subst h61
   go_enter Tryz.func99,Tryz.ntmps99
   go_wp2;go_ret;exact ⟨rfl,rfl⟩
 by_cases h37:c=37
 · subst h37
   go_enter Tryz.func99,Tryz.ntmps99
   go_wp2;go_ret;exact ⟨rfl,rfl⟩
 by_cases h126:c=126
 · subst h126
   go_enter Tryz.func99,Tryz.ntmps99
   go_wp2;go_ret;exact ⟨rfl,rfl⟩
 by_cases h62:c=62
 · subst h62
   go_enter Tryz.func99,Tryz.ntmps99
   go_wp2;go_ret;exact ⟨rfl,rfl⟩
 have hk:Ae c=0:=by unfold Ae;rw [if_neg h43,if_neg h45,if_neg h58,if_neg h36,if_neg h42,if_neg h95,if_neg h44,if_neg h35,if_neg h40,if_neg h33,if_neg h61,if_neg h37,if_neg h126,if_neg h62]
 rw [hk];exact kinds_no c h43 h45 h58 h36 h42 h95 h44 h35 h40 h33 h61 h37 h126 h62 w
end Go.Proofs.YtfaihaoajdcjbaaGreatDoor
