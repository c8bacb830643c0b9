/-
  Law 16: sound states, and what is missing between them, with no program in sight. No condition. By an AI agent.
-/
import Derived.Test.YthhellgaafbokaaReg
namespace Go.Proofs.Ythhellgaafbokaa.Lg
set_option linter.unusedVariables false
open Go Go.RowKit Go.Proofs.Ythhellgaafbokaa.Base Go.Proofs.Ythhellgaafbokaa.Reg

/-- each state may be, and epochs rise -/
def SoundF (n : Nat) (l : Nat → St) : Prop := ∀ i, i < n → mayE (l i) = 0 ∧ (0 < i → (l (i - 1)).epoch < (l i).epoch)
instance (n : Nat) (l : Nat → St) : Decidable (SoundF n l) := inferInstanceAs (Decidable (∀ i, i < n → _))
theorem SoundF.lt {n : Nat} {l : Nat → St} (h : SoundF n l) {i j : Nat} (hij : i < j) (hj : j < n) : (l i).epoch < (l j).epoch := by
  induction j with
  | zero => omega
  | succ j ih =>
    have h1 := (h (j + 1) hj).2 (by omega)
    simp only [Nat.add_sub_cancel] at h1
    by_cases e : i = j
    · rw [e]; exact h1
    · have := ih (by omega) (by omega)
      omega
theorem SoundF.gap {n : Nat} {l : Nat → St} (h : SoundF n l) {i j : Nat} (hij : i ≤ j) (hj : j < n) : (l i).epoch + ((j - i : Nat) : Int) ≤ (l j).epoch := by
  induction j with
  | zero => have : i = 0 := by omega
            subst this; simp
  | succ j ih =>
    by_cases e : i = j + 1
    · subst e; simp
    · have h1 := (h (j + 1) hj).2 (by omega)
      simp only [Nat.add_sub_cancel] at h1
      have := ih (by omega) (by omega)
      omega
theorem SoundF.head {n m : Nat} {l : Nat → St} (h : SoundF n l) (hm : m ≤ n) : SoundF m l := fun i hi => h i (by omega)
theorem SoundF.tail {n m : Nat} {l : Nat → St} (h : SoundF n l) (hm : m ≤ n) : SoundF (n - m) (fun i => l (m + i)) := fun i hi => ⟨(h (m + i) (by omega)).1, fun h0 => by
  have := (h (m + i) (by omega)).2 (by omega)
  rwa [show m + i - 1 = m + (i - 1) by omega] at this⟩
/-- two sound parts are sound together, if what is behind begins later -/
theorem SoundF.join {n m : Nat} {l : Nat → St} (hm : 0 < m ∧ m < n) (h1 : SoundF m l) (h2 : SoundF (n - m) (fun i => l (m + i))) (h3 : (l (m - 1)).epoch < (l m).epoch) : SoundF n l := fun i hi => by
  by_cases e : i < m
  · exact h1 i e
  · have h4 := h2 (i - m) (by omega)
    simp only [show m + (i - m) = i by omega] at h4
    refine ⟨h4.1, fun _ => ?_⟩
    by_cases e2 : i = m
    · rw [e2]; exact h3
    · have := h4.2 (by omega)
      rwa [show m + (i - m - 1) = i - 1 by omega] at this
/-- how many epochs are missing -/
def gapsF (n : Nat) (l : Nat → St) : Int := if n = 0 ∨ ¬ SoundF n l then 0 else (l (n - 1)).epoch - (l 0).epoch - ((n - 1 : Nat) : Int)
theorem gapsF_bad {n : Nat} {l : Nat → St} (h : ¬ SoundF n l) : gapsF n l = 0 := if_pos (.inr h)
theorem gapsF_nil {l : Nat → St} : gapsF 0 l = 0 := if_pos (.inl rfl)
theorem gapsF_ok {n : Nat} {l : Nat → St} (hn : 0 < n) (h : SoundF n l) : gapsF n l = (l (n - 1)).epoch - (l 0).epoch - ((n - 1 : Nat) : Int) ∧ 0 ≤ gapsF n l := by
  have e : gapsF n l = (l (n - 1)).epoch - (l 0).epoch - ((n - 1 : Nat) : Int) := if_neg (by intro h9; rcases h9 with h9 | h9; omega; exact h9 h)
  refine ⟨e, ?_⟩
  have := h.gap (i := 0) (j := n - 1) (by omega) (by omega)
  rw [e]
  omega
theorem gapsF_parts {n m : Nat} {l : Nat → St} (hm : 0 < m ∧ m < n) (h : SoundF n l) : gapsF n l = gapsF m l + ((l m).epoch - (l (m - 1)).epoch - 1) + gapsF (n - m) (fun i => l (m + i)) ∧ 0 ≤ (l m).epoch - (l (m - 1)).epoch - 1 := by
  obtain ⟨e1, _⟩ := gapsF_ok (by omega) h
  obtain ⟨e2, _⟩ := gapsF_ok (by omega) (h.head (m := m) (by omega))
  obtain ⟨e3, _⟩ := gapsF_ok (by omega) (h.tail (m := m) (by omega))
  have h4 := (h m hm.2).2 hm.1
  rw [e1, e2, e3, show m + (n - m - 1) = n - 1 by omega, Nat.add_zero]
  omega
end Go.Proofs.Ythhellgaafbokaa.Lg
