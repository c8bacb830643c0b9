/-
  Law 15: ArbiterAlone's walk, as its frame wants it. By an AI agent.
-/
import Derived.Test.YtkmlikohgilnbaaDoorAloneA
import Derived.Test.YtkmlikohgilnbaaDoorArbT
namespace Go.Proofs.YtkmlikohgilnbaaDoor.Arb
set_option linter.unusedVariables false
open Go Go.RowKit Go.Proofs.YtkmlikohgilnbaaDoor.Base Go.Proofs.YtkmlikohgilnbaaDoor.Reg
theorem ArbiterAlone_law (u : Value) (s : St) (v : Value) (p : Pl) (n : Int) (bn : -9223372036854775808 ≤ n ∧ n ≤ 9223372036854775807) (w : World) (hs : s.Ok ∧ u = s.val) (hp : p.Ok ∧ v = p.val) (ht : Modes.Tab w) : Calls Tryd.prog 6 #[u, v, .int .i64 n] w fun e w' => e = .returned (.bool true) ∧ Below w.heap.size w w' := by
  obtain ⟨hp, rfl⟩ := hp
  obtain ⟨hs, rfl⟩ := hs
  exact ArbiterAlone_walk s hs p hp n w ht
end Go.Proofs.YtkmlikohgilnbaaDoor.Arb
