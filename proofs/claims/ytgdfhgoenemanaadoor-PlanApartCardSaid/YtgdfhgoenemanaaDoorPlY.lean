/-
  Law 6: two topics' words apart, in plain numbers. Conditions stand at each. By an AI agent.
-/
import Derived.Test.YtgdfhgoenemanaaDoorPlW
namespace Go.Proofs.YtgdfhgoenemanaaDoor.Plan
set_option linter.unusedVariables false
set_option linter.unusedSimpArgs false
open Go Go.RowKit Go.Proofs.YtgdfhgoenemanaaDoor.Base
/-- the i-th word that is looked at: who advertises it, its sequence, a word of a record -/
def lvF (c : Cf) (j : Nat) (g w : Int) (i : Nat) : Int := if i = 0 then offP c j else if i = 1 then offP c j + 1 else offP c j + 2 + g % (c.l j).depth * (c.l j).words + w
theorem spF_ok {c : Cf} (h : OkC c) {j : Nat} (hj : j < c.n) : (spF c j).AtOk := by
  have hl := h.l j hj
  have hb := offP_bounds h j (by omega)
  have hn := h.n
  have hg := h.log
  exact ⟨hl.1, ⟨by have := hl.2.1; show 1 ≤ (c.l j).depth; omega, hl.2.2⟩, by show 0 ≤ offP c j + 2; omega, by show offP c j + 2 ≤ 1048576; omega⟩
theorem atF_sp {c : Cf} (h : OkC c) {j : Nat} (hj : j < c.n) (g : Int) : atF (spF c j) g = offP c j + 2 + g % (c.l j).depth * (c.l j).words := if_pos (spF_ok h hj)
theorem prod_part {c : Cf} (h : OkC c) {j : Nat} (hj : j < c.n) (g : Int) : 0 ≤ g % (c.l j).depth * (c.l j).words ∧ g % (c.l j).depth * (c.l j).words + (c.l j).words ≤ (c.l j).words * (c.l j).depth := by
  have hl := h.l j hj
  generalize (c.l j).words = wo at *
  generalize (c.l j).depth = de at *
  have a := Int.emod_nonneg g (b := de) (by omega)
  have b := Int.emod_lt_of_pos g (b := de) (by omega)
  refine ⟨Int.mul_nonneg a (by omega), ?_⟩
  have h1 : (g % de + 1) * wo ≤ de * wo := Int.mul_le_mul_of_nonneg_right (by omega) (by omega)
  rw [Int.add_mul, Int.one_mul] at h1
  rw [Int.mul_comm wo de]
  exact h1
theorem at_bounds {c : Cf} (h : OkC c) {j : Nat} (hj : j < c.n) (g : Int) : 0 ≤ offP c j + 2 + g % (c.l j).depth * (c.l j).words ∧ offP c j + 2 + g % (c.l j).depth * (c.l j).words ≤ 100000 := by
  have h1 := prod_part h hj g
  have h2 := prod_bounds (h.l j hj)
  have h3 := offP_bounds h j (by omega)
  have h4 := h.log
  have h5 := h.n
  have h6 := h.l j hj
  omega
theorem lvF_in {c : Cf} (h : OkC c) {j : Nat} (hj : j < c.n) (g w : Int) (hw : 0 ≤ w ∧ w < (c.l j).words) {i : Nat} (hi : i < 3) : offP c j ≤ lvF c j g w i ∧ lvF c j g w i < offP c (j + 1) := by
  have h3 : offP c (j + 1) = offP c j + 2 + (c.l j).words * (c.l j).depth := rfl
  have hp := prod_bounds (h.l j hj)
  have hq := prod_part h hj g
  rw [h3]
  unfold lvF
  split
  · omega
  · split <;> omega
theorem lvF_facts {c : Cf} (h : OkC c) {j : Nat} (hj : j < c.n) (g w : Int) (hw : 0 ≤ w ∧ w < (c.l j).words) {i : Nat} (hi : i < 3) (e : Int) :
    1 < lvF c j g w i ∧ lvF c j g w i < offP c c.n ∧ whoF c (lvF c j g w i) = (j : Int) ∧ lvF c j g w i ≠ 1 + e % c.log := by
  have hin := lvF_in h hj g w hw hi
  have hb := offP_bounds h j (by omega)
  have hl := h.log
  have hm := offP_mono h (show j + 1 ≤ c.n by omega) (Nat.le_refl _)
  have he := Int.emod_lt_of_pos e (b := c.log) (by omega)
  exact ⟨by omega, by omega, who_topic h hj hin.1 hin.2, by omega⟩
def sameB (c : Cf) (j1 j2 : Nat) (g1 g2 w1 w2 : Int) (i k : Nat) : Bool := decide (j1 = j2) && decide (i = k) && (decide (i < 2) || (decide (w1 = w2) && decide (g1 % (c.l j1).depth = g2 % (c.l j1).depth)))
theorem lvF_same {c : Cf} (h : OkC c) {j1 j2 : Nat} (h1 : j1 < c.n) (h2 : j2 < c.n) (g1 g2 w1 w2 : Int) (hw1 : 0 ≤ w1 ∧ w1 < (c.l j1).words) (hw2 : 0 ≤ w2 ∧ w2 < (c.l j2).words) {i k : Nat} (hi : i < 3) (hk : k < 3) :
    (lvF c j1 g1 w1 i == lvF c j2 g2 w2 k) = sameB c j1 j2 g1 g2 w1 w2 i k := by
  have p1 := lvF_in h h1 g1 w1 hw1 hi
  have p2 := lvF_in h h2 g2 w2 hw2 hk
  unfold sameB
  by_cases e : j1 = j2
  · subst e
    have q1 := prod_part h h1 g1
    have q2 := prod_part h h1 g2
    by_cases ei : i = k
    · subst ei
      by_cases e2 : i < 2
      · have : lvF c j1 g1 w1 i = lvF c j1 g2 w2 i := by
          unfold lvF
          split
          · rfl
          · rw [if_pos (by omega)]
            rename_i h0
            rw [if_pos (by omega)]
        rw [this]
        simp [e2]
      · have e3 : i = 2 := by omega
        subst e3
        have hl := h.l j1 h1
        have l1 : lvF c j1 g1 w1 2 = offP c j1 + 2 + g1 % (c.l j1).depth * (c.l j1).words + w1 := rfl
        have l2 : lvF c j1 g2 w2 2 = offP c j1 + 2 + g2 % (c.l j1).depth * (c.l j1).words + w2 := rfl
        rw [l1, l2]
        have key : (g1 % (c.l j1).depth * (c.l j1).words + w1 = g2 % (c.l j1).depth * (c.l j1).words + w2) ↔ (w1 = w2 ∧ g1 % (c.l j1).depth = g2 % (c.l j1).depth) := by
          generalize g1 % (c.l j1).depth = r1 at *
          generalize g2 % (c.l j1).depth = r2 at *
          generalize (c.l j1).words = wo at *
          constructor
          · intro hh
            have d1 : (r1 * wo + w1) / wo = r1 := by rw [Int.add_comm, Int.add_mul_ediv_right _ _ (by omega), Int.ediv_eq_zero_of_lt hw1.1 hw1.2]; omega
            have d2 : (r2 * wo + w2) / wo = r2 := by rw [Int.add_comm, Int.add_mul_ediv_right _ _ (by omega), Int.ediv_eq_zero_of_lt hw2.1 hw2.2]; omega
            have e5 : r1 = r2 := by rw [← d1, ← d2, hh]
            subst e5
            exact ⟨by omega, rfl⟩
          · rintro ⟨e5, e6⟩
            rw [e5, e6]
        rw [Bool.eq_iff_iff, beq_iff_eq]
        simp only [decide_true, Bool.true_and, e2, decide_false, Bool.false_or, Bool.and_eq_true, decide_eq_true_eq]
        rw [← key]
        constructor <;> intro hh <;> omega
    · have : lvF c j1 g1 w1 i ≠ lvF c j1 g2 w2 k := by
        have s1 : i = 0 ∨ i = 1 ∨ i = 2 := by omega
        have s2 : k = 0 ∨ k = 1 ∨ k = 2 := by omega
        rcases s1 with rfl | rfl | rfl <;> rcases s2 with rfl | rfl | rfl <;> first | exact absurd rfl ei | (simp only [lvF]; simp; omega)
      rw [beq_eq_false_iff_ne.2 this, decide_eq_false ei]
      simp
  · have : lvF c j1 g1 w1 i ≠ lvF c j2 g2 w2 k := by
      rcases Nat.lt_or_ge j1 j2 with hh | hh
      · have := offP_mono h (show j1 + 1 ≤ j2 by omega) (by omega)
        omega
      · have := offP_mono h (show j2 + 1 ≤ j1 by omega) (by omega)
        omega
    rw [beq_eq_false_iff_ne.2 this, decide_eq_false e]
    simp
theorem set3_blk {w : World} {b : Nat} {t : TypeId} {y0 y1 y2 x0 x1 x2 : Value} (h : Blk w b t #[y0, y1, y2]) :
    Blk (((w.setCell ⟨b, 0, none⟩ x0).setCell ⟨b, 1, none⟩ x1).setCell ⟨b, 2, none⟩ x2) b t #[x0, x1, x2] := ((h.set_ 0 x0).set_ 1 x1).set_ 2 x2
theorem set3_below {B : Nat} {a w : World} {b : Nat} {x0 x1 x2 : Value} (h : Below B a w) (hb : B ≤ b) :
    Below B a (((w.setCell ⟨b, 0, none⟩ x0).setCell ⟨b, 1, none⟩ x1).setCell ⟨b, 2, none⟩ x2) :=
  ((h.setCell (p := ⟨b, 0, none⟩) hb x0).setCell (p := ⟨b, 1, none⟩) hb x1).setCell (p := ⟨b, 2, none⟩) hb x2
end Go.Proofs.YtgdfhgoenemanaaDoor.Plan
