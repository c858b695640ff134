/- A scope with two labels that are jumped to from ahead (no program in sight). -/
import Derived.Test.YtagkgfniihiinaaGreatDoorJ50
import Derived.Scope
import Derived.WalkMore
set_option linter.all false
namespace Go.Proofs.YtagkgfniihiinaaGreatDoor
def jump2 (J0 J1:Act->World->Prop) (Q:Exit->Act->World->Prop):Exit->Act->World->Prop
 | .goto l,a,w=>(l=0/\J0 a w)\/(l=1/\J1 a w)
 | e,a,w=>Q e a w
section
variable {P:Program} {a:Act} {w:World} {J0 J1:Act->World->Prop} {Q:Exit->Act->World->Prop}
@[go_sem] theorem jump2_normal:jump2 J0 J1 Q .normal a w=Q .normal a w:=rfl
@[go_sem] theorem jump2_exit (id:Nat):jump2 J0 J1 Q (.exit id) a w=Q (.exit id) a w:=rfl
@[go_sem] theorem jump2_ret:jump2 J0 J1 Q .ret a w=Q .ret a w:=rfl
@[go_sem] theorem jump2_panic (ch:List PanicEntry):jump2 J0 J1 Q (.panic ch) a w=Q (.panic ch) a w:=rfl
theorem jump2_0 (h:J0 a w):jump2 J0 J1 Q (.goto 0) a w:=.inl ⟨rfl,h⟩
theorem Em {c r0 r1:Code} (h0:findLabel c 0=some r0) (h1:findLabel c 1=some r1)
   (first:c.wp P (jump2 (fun a w=>r0.wp P (Exit.noGoto Q) a w) (fun a w=>r1.wp P (Exit.noGoto Q) a w) Q) a w):(Code.scope c).wp P Q a w:=by
 intro b k cs
 have hg0:gotoIn 0 (.inScope c :: k)=some (.code r0 :: .inScope c :: k):=by simp [gotoIn,h0]
 have hg1:gotoIn 1 (.inScope c :: k)=some (.code r1 :: .inScope c :: k):=by simp [gotoIn,h1]
 have key:∀(r:Code) a w,r.wp P (Exit.noGoto Q) a w->∃e a' w', Q e a' w' /\ Arrives P (lone (b.at a (.code r :: .inScope c :: k)) cs w) b k cs e a' w' := by
   intro r a w hr;obtain ⟨e,a₁,w₁,hq,harr⟩:=hr b (.inScope c :: k) cs;cases e with
   | normal=>exact ⟨.normal,a₁,w₁,hq,Steps.trans harr (.one step_inScope)⟩
   | exit id=>exact ⟨.exit id,a₁,w₁,hq,fun k' hk=>harr k' (by simp [exitTo,hk])⟩
   | goto l' => exact hq.elim
   | ret=>exact ⟨_,a₁,w₁,hq,harr⟩
   | panic ch=>exact ⟨_,a₁,w₁,hq,harr⟩
   | outgrown=>exact ⟨_,a₁,w₁,hq,harr⟩
 obtain ⟨e,a₁,w₁,hq,harr⟩:=first b (.inScope c :: k) cs
 cases e with
 | normal=>exact ⟨.normal,a₁,w₁,hq,.head step_scope (Steps.trans harr (.one step_inScope))⟩
 | exit id=>exact ⟨.exit id,a₁,w₁,hq,fun k' hk=>.head step_scope (harr k' (by simp [exitTo,hk]))⟩
 | goto l' =>
   rcases hq with ⟨rfl,h⟩ | ⟨rfl,h⟩
   · obtain ⟨e₂,a₂,w₂,hq₂,harr₂⟩:=key _ a₁ w₁ h
     exact ⟨e₂,a₂,w₂,hq₂,.of_steps (.head step_scope (harr _ hg0)) harr₂⟩
   · obtain ⟨e₂,a₂,w₂,hq₂,harr₂⟩:=key _ a₁ w₁ h
     exact ⟨e₂,a₂,w₂,hq₂,.of_steps (.head step_scope (harr _ hg1)) harr₂⟩
 | ret=>exact ⟨_,a₁,w₁,hq,.of_steps (.one step_scope) harr⟩
 | panic ch=>exact ⟨_,a₁,w₁,hq,.of_steps (.one step_scope) harr⟩
 | outgrown=>exact ⟨_,a₁,w₁,hq,.of_steps (.one step_scope) harr⟩
end
end Go.Proofs.YtagkgfniihiinaaGreatDoor
