/-
  Two states compared, as one Boolean. No condition. By an AI agent.
-/
import Derived.Test.YthhellgaafbokaaLgA
import Derived.WalkKit
namespace Go.Proofs.Ythhellgaafbokaa.Lg
set_option linter.unusedVariables false
set_option linter.unusedSimpArgs false
open Go Go.RowKit Go.Proofs.Ythhellgaafbokaa.Base Go.Proofs.Ythhellgaafbokaa.Reg
set_option maxRecDepth 100000 in
theorem run_eql_st (s p : St) : ∀ w, (Go.binOp .eql 28 s.val p.val).run Try.prog w = .ok (.bool ((s.mode == p.mode) && ((s.source == p.source) && ((s.hold == p.hold) && ((s.flags == p.flags) && (s.epoch == p.epoch)))))) w := by
  intro w
  unfold St.val
  cases h0 : (s.mode == p.mode) <;> cases h1 : (s.source == p.source) <;> cases h2 : (s.hold == p.hold) <;> cases h3 : (s.flags == p.flags) <;> cases h4 : (s.epoch == p.epoch) <;> simp [go_sem, h0, h1, h2, h3, h4]
end Go.Proofs.Ythhellgaafbokaa.Lg
