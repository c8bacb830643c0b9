/-
  Law 12, the stage's theorem: who publishes, and what lies in the words, in plain words. No program. By an AI agent.
-/
import Derived.Test.YthcaagkgddeabaaPmA
namespace Go.Proofs.Ythcaagkgddeabaa.Bank
set_option linter.unusedVariables false
set_option linter.unusedSimpArgs false
open Go Go.RowKit Go.Proofs.Ythcaagkgddeabaa.Base Go.Deep Go.ChangeShapes Go.WideShapes Go.Proofs.Ythcaagkgddeabaa.Queue
theorem wordF_setF {ws : List Int} {a : Int} (h : inW ws a) (v b : Int) : wordF (setF ws a v) b = if b = a then v else wordF ws b := by
  unfold setF
  rw [if_pos h]
  have hl : (ws.set a.toNat v).length = ws.length := List.length_set
  unfold wordF
  by_cases e : b = a
  · subst e
    have h2 : inW (ws.set b.toNat v) b := by unfold inW at h ⊢; rw [hl]; exact h
    rw [if_pos rfl, if_pos h2, nth_set _ _ _ _ (by unfold inW at h; omega), if_pos rfl]
  · rw [if_neg e]
    by_cases h1 : inW ws b
    · have h2 : inW (ws.set a.toNat v) b := by unfold inW at h1 ⊢; rw [hl]; exact h1
      rw [if_pos h1, if_pos h2, nth_set _ _ _ _ (by unfold inW at h; omega), if_neg (by unfold inW at h h1; omega)]
    · have h2 : ¬ inW (ws.set a.toNat v) b := by unfold inW at h1 ⊢; rw [hl]; exact h1
      rw [if_neg h1, if_neg h2]
/-- how somebody who publishes stands -/
structure Pb where
  nx : Int
  gn : Int
/-- how many records are published -/
def Pb.p (b : Pb) : Int := if b.nx = 0 then b.gn else b.gn - 1
def recW (k g i : Int) : Int := 1000 * g + 10 * i + k
def pubB (W : Int) (b : Pb) : Pb := if b.nx = 0 then ⟨1, b.gn + 1⟩ else if b.nx ≤ W then ⟨b.nx + 1, b.gn⟩ else ⟨0, b.gn⟩
def pubAt (k W D : Int) (b : Pb) : Int := if b.nx = 0 then 30 * k + 1 else if b.nx ≤ W then 30 * k + 2 + b.gn % D * W + (b.nx - 1) else 30 * k + 1
def pubV (k W : Int) (b : Pb) : Int := if b.nx = 0 then 2 * (b.gn + 1) - 1 else if b.nx ≤ W then recW k b.gn (b.nx - 1) else 2 * b.gn
def pubE (W : Int) (b : Pb) : Bool := decide (b.nx ≠ 0 ∧ ¬ b.nx ≤ W)
/-- what lies in a topic's words -/
structure TInv (WS : List Int) (k W D : Int) (b : Pb) : Prop where
  nx : 0 ≤ b.nx ∧ b.nx ≤ W + 1
  gn : 0 ≤ b.gn ∧ (b.nx ≠ 0 → 1 ≤ b.gn)
  seq : wordF WS (30 * k + 1) = if b.nx = 0 then 2 * b.gn else 2 * b.gn - 1
  rcd : ∀ r, 1 ≤ r → r ≤ b.p → b.p + 2 ≤ r + D → ∀ i, 0 ≤ i → i < W → wordF WS (30 * k + 2 + r % D * W + i) = recW k r i
  prog : b.nx ≠ 0 → ∀ i, 0 ≤ i → i < b.nx - 1 → wordF WS (30 * k + 2 + b.gn % D * W + i) = recW k b.gn i
theorem place_b {q D W i : Int} (hq : 0 ≤ q) (hqD : q < D) (hD : D ≤ 6) (hW : 1 ≤ W ∧ W ≤ 4) (hi : 0 ≤ i ∧ i < W) : 0 ≤ q * W + i ∧ q * W + i ≤ 23 := by
  have h1 : 0 ≤ q * W := Int.mul_nonneg hq (by omega)
  have h2 : q * W ≤ 5 * W := Int.mul_le_mul_of_nonneg_right (by omega) (by omega)
  omega
theorem place_ne {q q' W i i' : Int} (h : q ≠ q') (hW : 1 ≤ W) (hi : 0 ≤ i ∧ i < W) (hi' : 0 ≤ i' ∧ i' < W) : q * W + i ≠ q' * W + i' := by
  intro e
  rcases Int.lt_or_gt_of_ne h with h1 | h1
  · have h2 : (q + 1) * W ≤ q' * W := Int.mul_le_mul_of_nonneg_right (by omega) (by omega)
    rw [Int.add_mul, Int.one_mul] at h2
    omega
  · have h2 : (q' + 1) * W ≤ q * W := Int.mul_le_mul_of_nonneg_right (by omega) (by omega)
    rw [Int.add_mul, Int.one_mul] at h2
    omega
theorem emod_b {g D : Int} (hD : 2 ≤ D ∧ D ≤ 6) : 0 ≤ g % D ∧ g % D < D := ⟨Int.emod_nonneg _ (by omega), Int.emod_lt_of_pos _ (by omega)⟩
theorem emod_ne {g r D : Int} (hD : 2 ≤ D ∧ D ≤ 6) (h1 : r < g) (h2 : g < r + D) : r % D ≠ g % D := by
  have : D = 2 ∨ D = 3 ∨ D = 4 ∨ D = 5 ∨ D = 6 := by omega
  rcases this with rfl | rfl | rfl | rfl | rfl <;> omega
section
variable {WS : List Int} {k W D : Int} {b : Pb}
/-- where a step of publishing stores -/
theorem pubAt_b (h : TInv WS k W D b) (hW : 1 ≤ W ∧ W ≤ 4) (hD : 2 ≤ D ∧ D ≤ 6) : 30 * k + 1 ≤ pubAt k W D b ∧ pubAt k W D b ≤ 30 * k + 25 := by
  have hm := emod_b (g := b.gn) hD
  have hn := h.nx
  unfold pubAt
  by_cases h0 : b.nx = 0
  · rw [if_pos h0]; omega
  · rw [if_neg h0]
    by_cases h1 : b.nx ≤ W
    · rw [if_pos h1]
      have := place_b hm.1 hm.2 hD.2 hW (i := b.nx - 1) (by omega)
      omega
    · rw [if_neg h1]; omega
theorem TInv.other {a v : Int} (h : TInv WS k W D b) (hW : 1 ≤ W ∧ W ≤ 4) (hD : 2 ≤ D ∧ D ≤ 6) (ha : inW WS a) (hn : a < 30 * k + 1 ∨ 30 * k + 25 < a) : TInv (setF WS a v) k W D b := by
  have ho : ∀ z, 30 * k + 1 ≤ z → z ≤ 30 * k + 25 → wordF (setF WS a v) z = wordF WS z := fun z h1 h2 => by
    rw [wordF_setF ha, if_neg (by omega)]
  refine ⟨h.nx, h.gn, ?_, fun r h1 h2 h3 i h4 h5 => ?_, fun h0 i h4 h5 => ?_⟩
  · rw [ho _ (by omega) (by omega)]; exact h.seq
  · have hm := emod_b (g := r) hD
    have := place_b hm.1 hm.2 hD.2 hW (i := i) ⟨h4, h5⟩
    rw [ho _ (by omega) (by omega)]; exact h.rcd r h1 h2 h3 i h4 h5
  · have hm := emod_b (g := b.gn) hD
    have hnx := h.nx
    have := place_b hm.1 hm.2 hD.2 hW (i := i) ⟨h4, by omega⟩
    rw [ho _ (by omega) (by omega)]; exact h.prog h0 i h4 h5
theorem pub_p (hn : 0 ≤ b.nx) : (pubB W b).p = b.p + if pubE W b = true then 1 else 0 := by
  unfold pubB pubE Pb.p
  by_cases h0 : b.nx = 0
  · rw [if_pos h0, if_pos h0, decide_eq_false (fun h => h.1 h0)]
    simp
  · rw [if_neg h0, if_neg h0]
    by_cases h1 : b.nx ≤ W
    · rw [if_pos h1, decide_eq_false (fun h => h.2 h1)]
      by_cases h2 : b.nx + 1 = 0
      · simp only [if_pos h2, if_neg (show ¬ (false = true) by decide)]
        omega
      · simp only [if_neg h2, if_neg (show ¬ (false = true) by decide)]
        omega
    · rw [if_neg h1, decide_eq_true ⟨h0, h1⟩]
      simp
theorem TInv.pub (h : TInv WS k W D b) (hW : 1 ≤ W ∧ W ≤ 4) (hD : 2 ≤ D ∧ D ≤ 6) (hin : inW WS (pubAt k W D b)) : TInv (setF WS (pubAt k W D b) (pubV k W b)) k W D (pubB W b) := by
  have hn := h.nx
  have hg := h.gn
  have hseq := h.seq
  have hrec := h.rcd
  have hprog := h.prog
  have hmg := emod_b (g := b.gn) hD
  unfold pubAt pubV pubB at *
  by_cases h0 : b.nx = 0
  · rw [if_pos h0] at hin hseq ⊢
    rw [if_pos h0, if_pos h0]
    have hp : b.p = b.gn := if_pos h0
    have hp2 : (⟨1, b.gn + 1⟩ : Pb).p = b.gn := by unfold Pb.p; rw [if_neg (by show ¬ (1 : Int) = 0; decide)]; show b.gn + 1 - 1 = b.gn; omega
    refine ⟨by simp only; omega, by simp only; omega, ?_, fun r h1 h2 h3 i h4 h5 => ?_, fun _ i h4 h5 => ?_⟩
    · rw [wordF_setF hin, if_pos rfl]; rfl
    · rw [hp2] at h2 h3
      have hm := emod_b (g := r) hD
      have := place_b hm.1 hm.2 hD.2 hW (i := i) ⟨h4, h5⟩
      rw [wordF_setF hin, if_neg (by omega)]
      exact hrec r h1 (by omega) (by omega) i h4 h5
    · simp only at h5; omega
  · rw [if_neg h0] at hin hseq ⊢
    rw [if_neg h0, if_neg h0]
    have hp : b.p = b.gn - 1 := if_neg h0
    have hg1 := hg.2 h0
    by_cases h1 : b.nx ≤ W
    · rw [if_pos h1] at hin ⊢
      rw [if_pos h1, if_pos h1]
      have hp2 : (⟨b.nx + 1, b.gn⟩ : Pb).p = b.gn - 1 := by unfold Pb.p; rw [if_neg (by show ¬ b.nx + 1 = 0; omega)]
      have hpl := place_b hmg.1 hmg.2 hD.2 hW (i := b.nx - 1) (by omega)
      refine ⟨by simp only; omega, ⟨hg.1, fun _ => hg1⟩, ?_, fun r h2 h3 h6 i h4 h5 => ?_, fun _ i h4 h5 => ?_⟩
      · rw [wordF_setF hin, if_neg (by omega), if_neg (by show ¬ b.nx + 1 = 0; omega)]; exact hseq
      · rw [hp2] at h3 h6
        have hne := place_ne (emod_ne hD (show r < b.gn by omega) (by omega)) hW.1 (i := i) (i' := b.nx - 1) ⟨h4, h5⟩ (by omega)
        rw [wordF_setF hin, if_neg (by omega)]
        exact hrec r h2 (by omega) (by omega) i h4 h5
      · simp only at h5 ⊢
        rw [wordF_setF hin]
        by_cases e : i = b.nx - 1
        · rw [e, if_pos rfl]
        · rw [if_neg (by omega)]
          exact hprog h0 i h4 (by omega)
    · rw [if_neg h1] at hin ⊢
      rw [if_neg h1, if_neg h1]
      have hp2 : (⟨0, b.gn⟩ : Pb).p = b.gn := if_pos rfl
      refine ⟨by simp only; omega, ⟨hg.1, fun h => absurd rfl h⟩, ?_, fun r h2 h3 h6 i h4 h5 => ?_, fun h => absurd rfl h⟩
      · rw [wordF_setF hin, if_pos rfl, if_pos rfl]
      · rw [hp2] at h3 h6
        have hm := emod_b (g := r) hD
        have := place_b hm.1 hm.2 hD.2 hW (i := i) ⟨h4, h5⟩
        rw [wordF_setF hin, if_neg (by omega)]
        by_cases e : r = b.gn
        · rw [e]
          exact hprog h0 i h4 (by omega)
        · exact hrec r h2 (by omega) (by omega) i h4 h5
/-- half of the sequence is how many are published -/
theorem TInv.half (h : TInv WS k W D b) : wordF WS (30 * k + 1) / 2 = b.p := by
  rw [h.seq]
  unfold Pb.p
  split <;> omega
end
theorem TInv.zero (k W D : Int) (hW : 1 ≤ W) : TInv (zeros 60) k W D ⟨0, 0⟩ := by
  have hz : ∀ a, wordF (zeros 60) a = 0 := fun a => by
    unfold wordF
    split
    · exact zeros_nth 60 _
    · rfl
  refine ⟨by simp only; omega, ⟨Int.le_refl 0, fun h => absurd rfl h⟩, by rw [hz]; rfl, fun r h1 h2 => ?_, fun h => absurd rfl h⟩
  have : (⟨0, 0⟩ : Pb).p = 0 := rfl
  omega
end Go.Proofs.Ythcaagkgddeabaa.Bank
