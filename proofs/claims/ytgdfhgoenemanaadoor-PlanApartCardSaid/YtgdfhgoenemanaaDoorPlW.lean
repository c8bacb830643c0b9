/-
  Law 6: whose a word is: by the spans, and word by word. Conditions stand at each. By an AI agent.
-/
import Derived.Test.YtgdfhgoenemanaaDoorPlQ
namespace Go.Proofs.YtgdfhgoenemanaaDoor.Plan
set_option linter.unusedVariables false
set_option linter.unusedSimpArgs false
open Go Go.RowKit Go.Proofs.YtgdfhgoenemanaaDoor.Base
theorem offP_mono {c : Cf} (h : OkC c) {j k : Nat} (hjk : j ≤ k) (hk : k ≤ c.n) : offP c j ≤ offP c k := by
  induction k with
  | zero => rw [show j = 0 by omega]; exact Int.le_refl _
  | succ k ih =>
    by_cases e : j = k + 1
    · rw [e]; exact Int.le_refl _
    · have h1 := ih (by omega) (by omega)
      have h2 := prod_bounds (h.l k (by omega))
      have h3 : offP c (k + 1) = offP c k + 2 + (c.l k).words * (c.l k).depth := rfl
      rw [h3]
      omega
theorem find_topic {c : Cf} (h : OkC c) : ∀ n, n ≤ c.n → ∀ q : Int, offP c 0 ≤ q → q < offP c n → ∃ k, k < n ∧ offP c k ≤ q ∧ q < offP c (k + 1) := by
  intro n
  induction n with
  | zero => intro _ q h1 h2; omega
  | succ n ih =>
    intro hn q h1 h2
    by_cases e : q < offP c n
    · obtain ⟨k, hk, h3, h4⟩ := ih (by omega) q h1 e
      exact ⟨k, by omega, h3, h4⟩
    · exact ⟨n, by omega, by omega, h2⟩
theorem who_first {c : Cf} {q : Int} {j : Nat} (hq : ¬ q < 0) (hj : j < c.n + 2) (h : q < (spanX c j).2) (hl : ∀ i, i < j → ¬ q < (spanX c i).2) : whoF c q = (spanX c j).1 := by
  refine who_hit (k := j + 1) hq (by omega) ⟨upto c j, spanX c j, upto_succ c j, fun y hy => ?_, h, rfl⟩
  unfold upto at hy
  obtain ⟨i, hi, rfl⟩ := List.mem_map.1 hy
  exact hl i (List.mem_range.1 hi)
theorem spanX_two (c : Cf) (k : Nat) : spanX c (k + 2) = ((k : Int), offP c (k + 1)) := by unfold spanX; rw [if_neg (by omega), if_neg (by omega)]; rfl
theorem who_reg (c : Cf) : whoF c 0 = -1 := who_first (j := 0) (by omega) (by omega) (by show (0 : Int) < 1; omega) (fun i hi => absurd hi (by omega))
theorem who_log {c : Cf} {q : Int} (h1 : 1 ≤ q) (h2 : q < 1 + c.log) : whoF c q = -2 :=
  who_first (j := 1) (by omega) (by omega) h2 (fun i hi => by rw [show i = 0 by omega]; show ¬ q < 1; omega)
theorem who_topic {c : Cf} (h : OkC c) {q : Int} {k : Nat} (hk : k < c.n) (h1 : offP c k ≤ q) (h2 : q < offP c (k + 1)) : whoF c q = (k : Int) := by
  have hb := offP_bounds h k (by omega)
  have hlog := h.log
  have e := who_first (c := c) (q := q) (j := k + 2) (by omega) (by omega) (by rw [spanX_two]; exact h2) (fun i hi => by
    rcases i with _ | _ | i
    · show ¬ q < 1; omega
    · show ¬ q < 1 + c.log; omega
    · rw [spanX_two]
      have := offP_mono h (show i + 1 ≤ k by omega) (by omega)
      show ¬ q < offP c (i + 1)
      omega)
  rw [e, spanX_two]
theorem who_out {c : Cf} (h : OkC c) {q : Int} (hq : q < 0 ∨ offP c c.n ≤ q) : whoF c q = -3 := by
  by_cases h0 : q < 0
  · exact if_pos h0
  · have hb := offP_bounds h c.n (Nat.le_refl _)
    have hlog := h.log
    refine who_none h0 (fun y hy => ?_)
    unfold upto at hy
    obtain ⟨i, hi, rfl⟩ := List.mem_map.1 hy
    have hi := List.mem_range.1 hi
    rcases i with _ | _ | i
    · show ¬ q < 1; omega
    · show ¬ q < 1 + c.log; omega
    · rw [spanX_two]
      have := offP_mono h (show i + 1 ≤ c.n by omega) (Nat.le_refl _)
      show ¬ q < offP c (i + 1)
      omega
/-- by the spans it is as it is word by word -/
theorem who_wh {c : Cf} (h : OkC c) (q : Int) : ((q < 0 ∨ ((whL c c.n).length : Int) ≤ q) → whoF c q = -3) ∧ (∀ m : Nat, q = (m : Int) → m < (whL c c.n).length → whoF c q = nth (whL c c.n) m) := by
  have hl := whL_len h c.n (Nat.le_refl _)
  refine ⟨fun hq => who_out h (by rw [← hl]; exact hq), fun m hm hlt => ?_⟩
  subst hm
  by_cases h0 : m = 0
  · subst h0
    rw [whL_reg h c.n (Nat.le_refl _)]
    exact who_reg c
  · by_cases h1 : (m : Int) < 1 + c.log
    · rw [whL_log h c.n (Nat.le_refl _) m (by omega) h1]
      exact who_log (by omega) h1
    · obtain ⟨k, hk, h3, h4⟩ := find_topic h c.n (Nat.le_refl _) (m : Int) (by show 1 + c.log ≤ _; omega) (by omega)
      rw [whL_at h c.n (Nat.le_refl _) k hk m h3 h4]
      exact who_topic h hk h3 h4
end Go.Proofs.YtgdfhgoenemanaaDoor.Plan
