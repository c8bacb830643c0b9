/-
  The order of one of ArbiterRuns' regions: it is as it is said to be. No condition. By an AI agent.
-/
import Derived.Test.YtkmlikohgilnbaaDoorArbY
namespace Go.Proofs.YtkmlikohgilnbaaDoor.Arb
open Go Go.RowKit Go.Proofs.YtkmlikohgilnbaaDoor.Base
theorem s47 : schedP .any (regOf Tryd.f7.body 47) [([0, 1, 2, 3, 4, 5, 6, 7, 8, 9, 10, 11, 12, 13, 14, 15, 16, 17, 18, 19, 20, 21, 22, 23, 24, 25, 26, 27, 28, 29, 30, 31, 32, 33, 34, 35, 37, 38, 39, 40], 36), ([], 41)] [42, 43] (Array.replicate 44 false) = true := by kernel_rfl
end Go.Proofs.YtkmlikohgilnbaaDoor.Arb
