/-
  ReadWhole's argument, opened. No condition. By an AI agent.
-/
import Derived.Test.YtihogagnjikghaaRwW
namespace Go.Proofs.Ytihogagnjikghaa.Bank
set_option linter.unusedVariables false
open Go Go.RowKit Go.Proofs.Ytihogagnjikghaa.Base
section
variable {H : Type} {enc : TypeId × Value → H}
set_option maxRecDepth 100000 in
theorem rows9_of_trod {W : World} {r : Reach} {b : Nat} {v : Value} {d : DataW H} {p : List MemPlace} (hv : Value.okWide Try.prog W r b 57 v) (h : DataW.Trod enc Try.prog W 0 (fun _ => true) true 57 v d p) :
    ∃ x : Nat × (Nat → Value) × (Nat → List Int), Rows2 W .u64 v x.1 x.2.1 x.2.2 :=
  rows2_of_trod Try.underlying57 Try.underlying42 Try.underlying43 (by kernel_rfl) (by kernel_rfl) hv h
end
end Go.Proofs.Ytihogagnjikghaa.Bank
