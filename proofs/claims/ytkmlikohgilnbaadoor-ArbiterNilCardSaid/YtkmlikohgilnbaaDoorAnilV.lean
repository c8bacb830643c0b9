/-
  Law 15: ArbiterNil's walk, as its frame wants it. By an AI agent.
-/
import Derived.Test.YtkmlikohgilnbaaDoorAnilA
import Derived.Test.YtkmlikohgilnbaaDoorArbT
namespace Go.Proofs.YtkmlikohgilnbaaDoor.Arb
set_option linter.unusedVariables false
open Go Go.RowKit Go.Proofs.YtkmlikohgilnbaaDoor.Base Go.Proofs.YtkmlikohgilnbaaDoor.Reg
theorem ArbiterNil_law (a : Int) (ba : -9223372036854775808 ≤ a ∧ a ≤ 9223372036854775807) (v : Value) (p : Pl) (n : Int) (bn : -9223372036854775808 ≤ n ∧ n ≤ 9223372036854775807) (w : World) (hp : p.Ok ∧ v = p.val) (ht : Modes.Tab w) : Calls Tryd.prog 4 #[.int .i64 a, v, .int .i64 n] w fun e w' => e = .returned (.bool true) ∧ Below w.heap.size w w' := by
  obtain ⟨hp, rfl⟩ := hp
  exact ArbiterNil_walk a p hp n w ht
end Go.Proofs.YtkmlikohgilnbaaDoor.Arb
