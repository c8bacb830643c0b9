/-
  A scope in which the run jumps ahead, at most so many times: a goto goes on behind its label. No condition. By an AI agent.
-/
import Derived.Scope
import Derived.WalkMore
import Derived.Lib.Hide
import Derived.Below
namespace Go.Proofs.Ythcaagkgddeabaa.Base
open Go

/-- As Q; by a goto: what stands behind its label, at most n times. -/
def goOn (P : Program) (c : Code) (Q : Exit → Act → World → Prop) : Nat → Exit → Act → World → Prop
  | 0, .goto _, _, _ => False
  | n + 1, .goto l, a, w => ∃ rest, findLabel c l = some rest ∧ rest.wp P (goOn P c Q n) a w
  | _, .normal, a, w => Q .normal a w
  | _, .exit id, a, w => Q (.exit id) a w
  | _, .ret, a, w => Q .ret a w
  | _, .panic ch, a, w => Q (.panic ch) a w
  | _, .outgrown, a, w => Q .outgrown a w
section
variable {P : Program} {a : Act} {w : World} {Q : Exit → Act → World → Prop} {c : Code}
theorem goOn_ret {n : Nat} : goOn P c Q n .ret a w = Q .ret a w := by cases n <;> rfl
theorem goOn_normal {n : Nat} : goOn P c Q n .normal a w = Q .normal a w := by cases n <;> rfl
theorem goOn_exit {n id : Nat} : goOn P c Q n (.exit id) a w = Q (.exit id) a w := by cases n <;> rfl
theorem goOn_panic {n : Nat} {ch : List PanicEntry} : goOn P c Q n (.panic ch) a w = Q (.panic ch) a w := by cases n <;> rfl
theorem goOn_outgrown {n : Nat} : goOn P c Q n .outgrown a w = Q .outgrown a w := by cases n <;> rfl
theorem goOn_jump {c0 rest : Code} {n l : Nat} (hc : RowKit.Hid (c = c0)) (hf : findLabel c0 l = some rest) (h : rest.wp P (goOn P c Q n) a w) : goOn P c Q (n + 1) (.goto l) a w := by
  have e := hc.out
  subst e
  exact ⟨rest, hf, h⟩
theorem scope_key {b : Frame} {k : List Item} {cs : List Frame} : ∀ (n : Nat) (c' : Code) (a : Act) (w : World), c'.wp P (goOn P c Q n) a w →
    ∃ e a' w', Q e a' w' ∧ Arrives P (lone (b.at a (.code c' :: .inScope c :: k)) cs w) b k cs e a' w' := by
  intro n
  induction n with
  | zero =>
    intro c' a w h
    obtain ⟨e, a₁, w₁, hq, harr⟩ := h b (.inScope c :: k) cs
    cases e with
    | normal => rw [goOn_normal] at hq; exact ⟨.normal, a₁, w₁, hq, Steps.trans harr (.one step_inScope)⟩
    | exit id => rw [goOn_exit] at hq; exact ⟨.exit id, a₁, w₁, hq, fun k' hk => harr k' (by simp [exitTo, hk])⟩
    | goto l => exact hq.elim
    | ret => rw [goOn_ret] at hq; exact ⟨_, a₁, w₁, hq, harr⟩
    | panic ch => rw [goOn_panic] at hq; exact ⟨_, a₁, w₁, hq, harr⟩
    | outgrown => rw [goOn_outgrown] at hq; exact ⟨_, a₁, w₁, hq, harr⟩
  | succ n ih =>
    intro c' a w h
    obtain ⟨e, a₁, w₁, hq, harr⟩ := h b (.inScope c :: k) cs
    cases e with
    | normal => rw [goOn_normal] at hq; exact ⟨.normal, a₁, w₁, hq, Steps.trans harr (.one step_inScope)⟩
    | exit id => rw [goOn_exit] at hq; exact ⟨.exit id, a₁, w₁, hq, fun k' hk => harr k' (by simp [exitTo, hk])⟩
    | goto l =>
      obtain ⟨rest, hf, hr⟩ := hq
      have hg : gotoIn l (.inScope c :: k) = some (.code rest :: .inScope c :: k) := by simp [gotoIn, hf]
      obtain ⟨e₂, a₂, w₂, hq₂, harr₂⟩ := ih rest a₁ w₁ hr
      exact ⟨e₂, a₂, w₂, hq₂, .of_steps (harr _ hg) harr₂⟩
    | ret => rw [goOn_ret] at hq; exact ⟨_, a₁, w₁, hq, harr⟩
    | panic ch => rw [goOn_panic] at hq; exact ⟨_, a₁, w₁, hq, harr⟩
    | outgrown => rw [goOn_outgrown] at hq; exact ⟨_, a₁, w₁, hq, harr⟩
theorem wp_scope_ahead (n : Nat) (h : ∀ c', RowKit.Hid (c' = c) → c.wp P (goOn P c' Q n) a w) : (Code.scope c).wp P Q a w := by
  intro b k cs
  obtain ⟨e, a₁, w₁, hq, harr⟩ := scope_key (b := b) (k := k) (cs := cs) n c a w (h c (Lib.hid rfl))
  exact ⟨e, a₁, w₁, hq, .of_steps (.one step_scope) harr⟩
end
end Go.Proofs.Ythcaagkgddeabaa.Base
