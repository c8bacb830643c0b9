/-
  Law 10: what a step keeps of a snapshot under way. Conditions stand at each. By an AI agent.
-/
import Derived.Test.YtjdalllfnlpmnaaSnU
namespace Go.Proofs.Ytjdalllfnlpmnaa.Bank
set_option linter.unusedVariables false
set_option linter.unusedSimpArgs false
open Go Go.RowKit Go.Proofs.Ytjdalllfnlpmnaa.Base
theorem sStepF_steps (l : Nat → Spot) (n m : Nat) (ws : List Int) (x : SX) : x.steps ≤ (sStepF l n m ws x).steps ∧ (sStepF l n m ws x).steps ≤ x.steps + 1 := by
  unfold sStepF
  split
  · exact ⟨Int.le_refl _, by omega⟩
  split
  · exact ⟨Int.le_refl _, by show x.steps ≤ _; omega⟩
  split
  · exact ⟨by show _ ≤ x.steps + 1; omega, Int.le_refl _⟩
  split
  · exact ⟨by show _ ≤ x.steps + 1; omega, Int.le_refl _⟩
  split
  · exact ⟨by show _ ≤ x.steps + 1; omega, Int.le_refl _⟩
  · exact ⟨by show _ ≤ x.steps + 1; omega, Int.le_refl _⟩
theorem set_fits {gl : List Int} {i : Nat} {v : Int} (h : ∀ x ∈ gl, 0 ≤ x ∧ x ≤ 18446744073709551615) (hv : 0 ≤ v ∧ v ≤ 18446744073709551615) : ∀ x ∈ gl.set i v, 0 ≤ x ∧ x ≤ 18446744073709551615 := by
  intro x hx
  rcases List.mem_or_eq_of_mem_set hx with h1 | h1
  · exact h x h1
  · subst h1; exact hv
/-- a step keeps what a step asks -/
theorem sStepF_inv {l : Nat → Spot} {n m : Nat} {ws : List Int} {x : SX} (hw : ∀ i, 0 ≤ wordF ws i ∧ wordF ws i ≤ 18446744073709551615) (h : SInv n m l x.tries x.steps x.gl) (hk : 0 ≤ x.k ∧ x.k < 2 * (n : Int) + (m : Int)) (h0 : x.how = 0) (hs : x.steps < 1099511627776) (h1 : (sStepF l n m ws x).how = 0) :
    SInv n m l (sStepF l n m ws x).tries (sStepF l n m ws x).steps (sStepF l n m ws x).gl ∧ 0 ≤ (sStepF l n m ws x).k ∧ (sStepF l n m ws x).k < 2 * (n : Int) + (m : Int) := by
  obtain ⟨tries, k, begun, steps, how, gl, wl⟩ := x
  simp only at h hk h0 hs
  subst h0
  have hst : 0 ≤ steps + 1 ∧ steps + 1 ≤ 1099511627776 := by have := h.st; omega
  have hn := h.n1
  have hv := hw (sAtF l n m ⟨tries, k, begun, steps, 0, gl, wl⟩)
  unfold sStepF at h1 ⊢
  generalize wordF ws (sAtF l n m ⟨tries, k, begun, steps, 0, gl, wl⟩) = v at *
  rw [if_neg (fun h => h rfl)] at h1 ⊢
  by_cases hin : ¬ inW ws (sAtF l n m ⟨tries, k, begun, steps, 0, gl, wl⟩)
  · rw [if_pos hin] at h1
    exact absurd (show (3 : Int) = 0 from h1) (by decide)
  rw [if_neg hin] at h1 ⊢
  simp only at h1 ⊢
  by_cases c1 : k < n
  · rw [if_pos c1] at h1 ⊢
    exact ⟨⟨h.n1, h.n64, h.m64, h.right, h.width, set_fits h.gens (by omega), h.tr, hst⟩, by show 0 ≤ k + 1; omega, by show k + 1 < _; omega⟩
  rw [if_neg c1] at h1 ⊢
  by_cases c2 : k < (n : Int) + (m : Int)
  · rw [if_pos c2] at h1 ⊢
    exact ⟨⟨h.n1, h.n64, h.m64, h.right, h.width, h.gens, h.tr, hst⟩, by show 0 ≤ k + 1; omega, by show k + 1 < _; omega⟩
  rw [if_neg c2] at h1 ⊢
  by_cases c3 : v / 2 = nth gl (k - n - m).toNat
  · rw [if_pos c3] at h1 ⊢
    by_cases c4 : k + 1 = 2 * (n : Int) + (m : Int)
    · rw [if_pos c4] at h1
      exact absurd (show (1 : Int) = 0 from h1) (by decide)
    · exact ⟨⟨h.n1, h.n64, h.m64, h.right, h.width, h.gens, h.tr, hst⟩, by show 0 ≤ k + 1; omega, by show k + 1 < _; omega⟩
  rw [if_neg c3] at h1 ⊢
  by_cases c4 : tries - 1 = 0
  · rw [if_pos c4] at h1
    exact absurd (show (2 : Int) = 0 from h1) (by decide)
  · exact ⟨⟨h.n1, h.n64, h.m64, h.right, h.width, h.gens, by have := h.tr; show 1 ≤ tries - 1 ∧ tries - 1 ≤ 16; omega, hst⟩, by show (0 : Int) ≤ 0; omega, by show (0 : Int) < _; omega⟩
end Go.Proofs.Ytjdalllfnlpmnaa.Bank
