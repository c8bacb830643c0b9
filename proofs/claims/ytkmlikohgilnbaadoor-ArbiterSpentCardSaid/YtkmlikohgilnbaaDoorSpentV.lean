/-
  Law 15: ArbiterSpent's walk, as its frame wants it. By an AI agent.
-/
import Derived.Test.YtkmlikohgilnbaaDoorSpentA
import Derived.Test.YtkmlikohgilnbaaDoorArbT
namespace Go.Proofs.YtkmlikohgilnbaaDoor.Arb
open Go Go.RowKit Go.Proofs.YtkmlikohgilnbaaDoor.Base Go.Proofs.YtkmlikohgilnbaaDoor.Reg
theorem ArbiterSpent_law (f : Int) (bf : -9223372036854775808 ≤ f ∧ f ≤ 9223372036854775807) (n : Int) (bn : -9223372036854775808 ≤ n ∧ n ≤ 9223372036854775807) (c : Int) (bc : -9223372036854775808 ≤ c ∧ c ≤ 9223372036854775807) (w : World) (ht : Modes.Tab w) : Calls Tryd.prog 3 #[.int .i64 f, .int .i64 n, .int .i64 c] w fun e w' => e = .returned (.bool true) ∧ Below w.heap.size w w' := by
  exact ArbiterSpent_walk f n c w ht
end Go.Proofs.YtkmlikohgilnbaaDoor.Arb
