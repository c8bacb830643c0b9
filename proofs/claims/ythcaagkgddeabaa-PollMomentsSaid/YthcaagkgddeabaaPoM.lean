/-
  Law 12: Got and Step of a poll that is none, and how many tries there may be. No condition. By an AI agent.
-/
import Derived.Test.YthcaagkgddeabaaPoN
namespace Go.Proofs.Ythcaagkgddeabaa.Bank
set_option linter.unusedVariables false
set_option linter.unusedSimpArgs false
open Go Go.RowKit Go.Proofs.Ythcaagkgddeabaa.Base
set_option maxRecDepth 100000 in
theorem PStep_none (v : Value) (w : World) :
    Calls Try.prog 9 #[.pointer none, v] w fun e w' => e = .returned (.int .i64 3) ∧ w = w' := by
  go_enter Try.func9, Try.ntmps9
  go_wp2_with fail
  refine wp_scope_ahead 1 (fun c0 HC => ?_)
  go_wp2_with fail
  first | rw [goOn_ret] | skip
  go_ret
  exact ⟨rfl, rfl⟩
theorem pmay_any (t : Int) (w : World) : Calls Try.prog 44 #[.int .i64 t] w fun e w' => e = .returned (.bool (decide (1 ≤ t ∧ t ≤ 16))) ∧ w = w' := by
  by_cases h1 : t ≥ 1
  · have k1 : decide (t ≥ 1) = true := decide_eq_true h1
    by_cases h2 : t ≤ 16
    · have k2 : decide (t ≤ 16) = true := decide_eq_true h2
      rw [decide_eq_true (show 1 ≤ t ∧ t ≤ 16 from ⟨h1, h2⟩)]
      clear h1 h2
      go_enter Try.func44, Try.ntmps44
      go_wp2_with fail
      go_ret
      exact ⟨rfl, rfl⟩
    · have k2 : decide (t ≤ 16) = false := decide_eq_false h2
      rw [decide_eq_false (show ¬ (1 ≤ t ∧ t ≤ 16) from fun h => h2 h.2)]
      clear h1 h2
      go_enter Try.func44, Try.ntmps44
      go_wp2_with fail
      go_ret
      exact ⟨rfl, rfl⟩
  · have k1 : decide (t ≥ 1) = false := decide_eq_false h1
    rw [decide_eq_false (show ¬ (1 ≤ t ∧ t ≤ 16) from fun h => h1 h.1)]
    clear h1
    go_enter Try.func44, Try.ntmps44
    go_wp2_with fail
    go_ret
    exact ⟨rfl, rfl⟩
end Go.Proofs.Ythcaagkgddeabaa.Bank
