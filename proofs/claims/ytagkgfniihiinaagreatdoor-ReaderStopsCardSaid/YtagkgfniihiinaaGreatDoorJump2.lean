/- A scope with two labels that are jumped to from ahead. -/
import Derived.Test.YtagkgfniihiinaaGreatDoorJ56
set_option linter.all false
namespace Go.Proofs.YtagkgfniihiinaaGreatDoor
def jump2 (J0 J1:Act->World->Prop) (Q:Exit->Act->World->Prop):Exit->Act->World->Prop
 | .goto l,a,w=>(l=0/\J0 a w)\/(l=1/\J1 a w)
 | e,a,w=>Q e a w
section
variable {P:Program} {a:Act} {w:World} {J0 J1:Act->World->Prop} {Q:Exit->Act->World->Prop}
@[go_sem] theorem jump2_normal:jump2 J0 J1 Q .normal a w=Q .normal a w:=rfl
@[go_sem] theorem jump2_exit (id:Nat):jump2 J0 J1 Q (.exit id) a w=Q (.exit id) a w:=rfl
@[go_sem] theorem jump2_ret:jump2 J0 J1 Q .ret a w=Q .ret a w:=rfl
@[go_sem] theorem jump2_panic (ch:List PanicEntry):jump2 J0 J1 Q (.panic ch) a w=Q (.panic ch) a w:=rfl
theorem jump2_0 (h:J0 a w):jump2 J0 J1 Q (.goto 0) a w:=.inl ⟨rfl,h⟩
theorem F9 {c r0 r1:Code} (h0:findLabel c 0=some r0) (h1:findLabel c 1=some r1)
  (first:c.wp P (jump2 (fun a w=>r0.wp P (Exit.noGoto Q) a w) (fun a w=>r1.wp P (Exit.noGoto Q) a w) Q) a w):(Code.scope c).wp P Q a w:=by
 intro b k cs;have j:gotoIn 0 (.inScope c :: k)=some (.code r0 :: .inScope c :: k):=by simp [gotoIn,h0]
 have l:gotoIn 1 (.inScope c :: k)=some (.code r1 :: .inScope c :: k):=by simp [gotoIn,h1]
 have i:∀(r:Code) a w,r.wp P (Exit.noGoto Q) a w->∃e a' w', Q e a' w' /\ Arrives P (lone (b.at a (.code r :: .inScope c :: k)) cs w) b k cs e a' w' := by
  intro r a w hr;obtain ⟨e,a₁,w₁,hq,d⟩:=hr b (.inScope c :: k) cs;cases e with
  | normal=>exact ⟨.normal,a₁,w₁,hq,Steps.trans d (.one step_inScope)⟩
  | exit id=>exact ⟨.exit id,a₁,w₁,hq,fun k' hk=>d k' (by simp [exitTo,hk])⟩
  | goto l' => exact hq.elim
  | ret=>exact ⟨_,a₁,w₁,hq,d⟩
  | panic ch=>exact ⟨_,a₁,w₁,hq,d⟩
  | outgrown=>exact ⟨_,a₁,w₁,hq,d⟩
 obtain ⟨e,a₁,w₁,hq,d⟩:=first b (.inScope c :: k) cs;cases e with
 | normal=>exact ⟨.normal,a₁,w₁,hq,.head step_scope (Steps.trans d (.one step_inScope))⟩
 | exit id=>exact ⟨.exit id,a₁,w₁,hq,fun k' hk=>.head step_scope (d k' (by simp [exitTo,hk]))⟩
 | goto l' =>
  rcases hq with ⟨rfl,h⟩ | ⟨rfl,h⟩
  ·obtain ⟨e₂,a₂,w₂,g,f⟩:=i _ a₁ w₁ h
   exact ⟨e₂,a₂,w₂,g,.of_steps (.head step_scope (d _ j)) f⟩
  ·obtain ⟨e₂,a₂,w₂,g,f⟩:=i _ a₁ w₁ h
   exact ⟨e₂,a₂,w₂,g,.of_steps (.head step_scope (d _ l)) f⟩
 | ret=>exact ⟨_,a₁,w₁,hq,.of_steps (.one step_scope) d⟩
 | panic ch=>exact ⟨_,a₁,w₁,hq,.of_steps (.one step_scope) d⟩
 | outgrown=>exact ⟨_,a₁,w₁,hq,.of_steps (.one step_scope) d⟩
end
