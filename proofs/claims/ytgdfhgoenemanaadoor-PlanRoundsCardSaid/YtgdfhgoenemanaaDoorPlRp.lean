/-
  Law 6: as many generations one behind the other as there are places, in plain numbers. Conditions stand at each. By an AI agent.
-/
import Derived.Test.YtgdfhgoenemanaaDoorPlI
namespace Go.Proofs.YtgdfhgoenemanaaDoor.Plan
set_option linter.unusedVariables false
set_option linter.unusedSimpArgs false
open Go Go.RowKit Go.Proofs.YtgdfhgoenemanaaDoor.Base
/-- where the i-th one's place begins -/
def ptF (s : Sp) (g : Int) (i : Nat) : Int := s.first + (g + (i : Int)) % s.depth * s.words
def ptL (s : Sp) (g : Int) : Nat → List Int
  | 0 => []
  | i + 1 => ptL s g i ++ [ptF s g i]
theorem ptL_len (s : Sp) (g : Int) (i : Nat) : (ptL s g i).length = i := by
  induction i with
  | zero => rfl
  | succ i ih => simp [ptL, ih]
theorem ptL_at (s : Sp) (g : Int) (n : Nat) : ∀ i, i < n → nth (ptL s g n) i = ptF s g i := by
  induction n with
  | zero => intro i hi; omega
  | succ n ih =>
    intro i hi
    unfold nth
    rw [List.getD_eq_getElem?_getD]
    simp only [ptL]
    by_cases e : i < n
    · rw [List.getElem?_append_left (by rw [ptL_len]; exact e)]
      have := ih i e
      unfold nth at this
      rw [List.getD_eq_getElem?_getD] at this
      exact this
    · have e : i = n := by omega
      subst e
      rw [List.getElem?_append_right (by rw [ptL_len]; exact Nat.le_refl _), ptL_len, Nat.sub_self]
      rfl
theorem atF_pt {s : Sp} (h : s.AtOk) (g : Int) (i : Nat) : atF s (g + (i : Int)) = ptF s g i := if_pos h
theorem pt_bounds {s : Sp} (h : s.AtOk) (g : Int) (i : Nat) : s.first ≤ ptF s g i ∧ ptF s g i + s.words ≤ s.first + s.words * s.depth ∧ 0 ≤ ptF s g i ∧ ptF s g i ≤ 1050000 := by
  have hb := atF_bounds (gen := g + (i : Int)) h
  obtain ⟨⟨h1, h2⟩, ⟨h3, h4⟩, h5, h6⟩ := h
  have b := Int.emod_lt_of_pos (g + (i : Int)) (b := s.depth) (by omega)
  unfold ptF
  generalize hr : (g + (i : Int)) % s.depth = r at *
  have h7 : (r + 1) * s.words ≤ s.depth * s.words := Int.mul_le_mul_of_nonneg_right (by omega) (by omega)
  rw [Int.add_mul, Int.one_mul, Int.mul_comm s.depth] at h7
  generalize s.words * s.depth = wd at *
  generalize r * s.words = rw_ at *
  omega
theorem pt_apart {s : Sp} (h : s.AtOk) (g : Int) {i k : Nat} (hi : (i : Int) < s.depth) (hk : k < i) : ptF s g k ≠ ptF s g i ∧ (s.words ≤ ptF s g k - ptF s g i ∨ s.words ≤ ptF s g i - ptF s g k) := by
  obtain ⟨⟨h1, h2⟩, ⟨h3, h4⟩, h5, h6⟩ := h
  have hne : (g + (k : Int)) % s.depth ≠ (g + (i : Int)) % s.depth := by
    intro e
    have e2 := Int.emod_eq_emod_iff_emod_sub_eq_zero.1 e
    have e3 : s.depth ∣ ((g + (k : Int)) - (g + (i : Int))) := Int.dvd_of_emod_eq_zero e2
    have e4 : s.depth ∣ ((i : Int) - (k : Int)) := by
      have := Int.dvd_neg.2 e3
      rwa [show -((g + (k : Int)) - (g + (i : Int))) = (i : Int) - (k : Int) by omega] at this
    have := Int.le_of_dvd (by omega) e4
    omega
  unfold ptF
  generalize (g + (k : Int)) % s.depth = r at *
  generalize (g + (i : Int)) % s.depth = q at *
  rcases (show r + 1 ≤ q ∨ q + 1 ≤ r by omega) with hh | hh
  · have h7 : (r + 1) * s.words ≤ q * s.words := Int.mul_le_mul_of_nonneg_right hh (by omega)
    rw [Int.add_mul, Int.one_mul] at h7
    omega
  · have h7 : (q + 1) * s.words ≤ r * s.words := Int.mul_le_mul_of_nonneg_right hh (by omega)
    rw [Int.add_mul, Int.one_mul] at h7
    omega
theorem at_turn (s : Sp) (g : Int) : atF s (g + s.depth) = atF s g := by
  unfold atF
  rw [Int.add_emod_right]
theorem entry_turn (d g : Int) : entryF 1 d (g + d) = entryF 1 d g := by
  unfold entryF
  rw [Int.add_emod_right]
theorem entry_in {d g : Int} (h : 1 ≤ d ∧ d ≤ 16) : 1 ≤ entryF 1 d g ∧ entryF 1 d g ≤ d := by
  have a := Int.emod_nonneg g (b := d) (by omega)
  have b := Int.emod_lt_of_pos g (b := d) (by omega)
  unfold entryF
  rw [if_pos ⟨⟨h.1, by omega⟩, by omega, by omega⟩]
  omega
end Go.Proofs.YtgdfhgoenemanaaDoor.Plan
