/-
  Law 12: Got of a poll that is none. No condition. By an AI agent.
-/
import Derived.Test.YthcaagkgddeabaaPoM
namespace Go.Proofs.Ythcaagkgddeabaa.Bank
set_option linter.unusedVariables false
set_option linter.unusedSimpArgs false
open Go Go.RowKit Go.Proofs.Ythcaagkgddeabaa.Base
theorem pres_tmp3 {P : Program} {fn : Func} {p q r : Tmp} (h : fn.results = #[.tmp p, .tmp q, .tmp r]) (tmps : Array Value) (w : World) :
    (results fn tmps).run P w = .ok (.tuple #[tmps.getD p undef, tmps.getD q undef, tmps.getD r undef]) w := by
  simp [results, h]
theorem PGot_none (w : World) : Calls Try.prog 8 #[.pointer none] w fun e w' => e = .returned (.tuple #[.int .i64 (-1), .int .u64 0, .slice none 0 0]) ∧ w = w' := by
  go_enter Try.func8, Try.ntmps8
  go_wp2_with fail
  refine bodyPost_ret (pres_tmp3 (fn := Try.f8) rfl _ _) rfl ?_
  exact ⟨rfl, rfl⟩
end Go.Proofs.Ythcaagkgddeabaa.Bank
