/- A scope out of which the run jumps ahead, once at most. No program. -/
import Derived.ScopeJumps
import Derived.WalkMore
namespace Go.Vir
open Go

/-- At a goto: what the label's code then owes. -/
def landed (P : Program) (c : Code) (Q : Exit → Act → World → Prop) : Exit → Act → World → Prop
  | .goto l, a, w => ∃ rest, findLabel c l = some rest ∧ rest.wp P (Exit.noGoto Q) a w
  | e, a, w => Q e a w

section
variable {P : Program} {a : Act} {w : World} {Q : Exit → Act → World → Prop} {c : Code}
@[go_sem] theorem landed_normal : landed P c Q .normal a w = Q .normal a w := rfl
@[go_sem] theorem landed_exit (id : Nat) : landed P c Q (.exit id) a w = Q (.exit id) a w := rfl
@[go_sem] theorem landed_ret : landed P c Q .ret a w = Q .ret a w := rfl
@[go_sem] theorem landed_panic (ch : List PanicEntry) : landed P c Q (.panic ch) a w = Q (.panic ch) a w := rfl

theorem landed_goto {l : Nat} {rest : Code} (hf : findLabel c l = some rest) (h : rest.wp P (Exit.noGoto Q) a w) : landed P c Q (.goto l) a w := ⟨rest, hf, h⟩

theorem wp_scope_once (h : c.wp P (landed P c Q) a w) : (Code.scope c).wp P Q a w := by
  intro b k cs
  obtain ⟨e, a₁, w₁, hq, harr⟩ := h b (.inScope c :: k) cs
  cases e with
  | normal => exact ⟨.normal, a₁, w₁, hq, .head step_scope (Steps.trans harr (.one step_inScope))⟩
  | exit id => exact ⟨.exit id, a₁, w₁, hq, fun k' hk => .head step_scope (harr k' (by simp [exitTo, hk]))⟩
  | goto l =>
    obtain ⟨rest, hf, hr⟩ := hq
    have hg : gotoIn l (.inScope c :: k) = some (.code rest :: .inScope c :: k) := by simp [gotoIn, hf]
    obtain ⟨e₂, a₂, w₂, hq₂, harr₂⟩ := hr b (.inScope c :: k) cs
    have hs : Steps P _ (lone (b.at a₁ (.code rest :: .inScope c :: k)) cs w₁) := .head step_scope (harr _ hg)
    cases e₂ with
    | normal => exact ⟨.normal, a₂, w₂, hq₂, Steps.trans hs (Steps.trans harr₂ (.one step_inScope))⟩
    | exit id => exact ⟨.exit id, a₂, w₂, hq₂, fun k' hk => Steps.trans hs (harr₂ k' (by simp [exitTo, hk]))⟩
    | goto l' => exact hq₂.elim
    | ret => exact ⟨_, a₂, w₂, hq₂, .of_steps hs harr₂⟩
    | panic ch => exact ⟨_, a₂, w₂, hq₂, .of_steps hs harr₂⟩
    | outgrown => exact ⟨_, a₂, w₂, hq₂, .of_steps hs harr₂⟩
  | ret => exact ⟨_, a₁, w₁, hq, .of_steps (.one step_scope) harr⟩
  | panic ch => exact ⟨_, a₁, w₁, hq, .of_steps (.one step_scope) harr⟩
  | outgrown => exact ⟨_, a₁, w₁, hq, .of_steps (.one step_scope) harr⟩
end
end Go.Vir
