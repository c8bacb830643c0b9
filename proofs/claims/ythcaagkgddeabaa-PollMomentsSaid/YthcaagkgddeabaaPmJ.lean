/-
  PollMoments' law over its opened arguments. By an AI agent.
-/
import Derived.Test.YthcaagkgddeabaaPmH
import Derived.Test.YthcaagkgddeabaaPmI
namespace Go.Proofs.Ythcaagkgddeabaa.Bank
open Go Go.RowKit Go.Proofs.Ythcaagkgddeabaa.Base Go.Deep Go.ChangeShapes Go.WideShapes Go.Proofs.Ythcaagkgddeabaa.Queue
theorem PollMoments_law (v0 : Value) (a : MT) (tries : Int) (_htb : -9223372036854775808 ≤ tries ∧ tries ≤ 9223372036854775807) (v2 : Value) (pk : List Int) (w : World)
    (h0 : v0 = .agg #[.int .i64 (a.W 0), .int .i64 (a.D 0), .int .i64 (a.rk 0), .int .i64 (a.rk 1), .int .i64 (a.rm 0), .int .i64 (a.rm 1), .int .i64 (a.W 1), .int .i64 (a.D 1), .int .i64 (a.rk 2), .int .i64 (a.rk 3), .int .i64 (a.rm 2), .int .i64 (a.rm 3)])
    (hpk : Ints w .i64 v2 pk) (_hx : ∀ n ∈ pk, (Lit.int .i64 n).wf = true) :
    Calls Try.prog 4 #[v0, .int .i64 tries, v2] w fun e w' => e = .returned (.bool true) ∧ Below w.heap.size w w' := by
  subst h0
  exact PollMoments_walk a tries v2 pk w hpk
end Go.Proofs.Ythcaagkgddeabaa.Bank
