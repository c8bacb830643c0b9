/-
  Law 16: LogSteps. Conditions stand at it. By an AI agent.
-/
import Derived.Test.YthhellgaafbokaaLgStepsW
namespace Go.Proofs.Ythhellgaafbokaa.Lg
set_option linter.unusedVariables false
open Go Go.RowKit Go.Proofs.Ythhellgaafbokaa.Base Go.Proofs.Ythhellgaafbokaa.Reg
theorem LogSteps_law (at_ : Int) (ha : -9223372036854775808 ≤ at_ ∧ at_ ≤ 9223372036854775807) (long : Int) (hl : -9223372036854775808 ≤ long ∧ long ≤ 9223372036854775807) (v : Value) (x : Nat × (Nat → Tn)) (w : World) (h : Tns w v x.1 x.2) :
    Calls Try.prog 7 #[.int .i64 at_, .int .i64 long, v] w fun e w' => e = .returned (.bool true) ∧ Below w.heap.size w w' := by
  by_cases hp : HasP at_ long
  · by_cases h100 : x.1 ≤ 100
    · exact Steps_in v x.1 x.2 at_ long w h hp h100
    · exact Steps_long v x.1 x.2 at_ long w h hp h100
  · exact Steps_out v x.1 x.2 at_ long w h hp
end Go.Proofs.Ythhellgaafbokaa.Lg
