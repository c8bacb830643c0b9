/-
  The order of one of ArbiterSteps' regions: it is as it is said to be. No condition. By an AI agent.
-/
import Derived.Test.YtkmlikohgilnbaaDoorArbW
namespace Go.Proofs.YtkmlikohgilnbaaDoor.Arb
open Go Go.RowKit Go.Proofs.YtkmlikohgilnbaaDoor.Base
def regs : Code → List (Nat × Array Oper)
  | .region i ops true => [(i, ops)]
  | .seq a b => regs a ++ regs b
  | .cond _ a b => regs a ++ regs b
  | .block _ a => regs a
  | .loop a => regs a
  | .scope a => regs a
  | .rangeFunc _ _ a b => regs a ++ regs b
  | _ => []
def regOf (c : Option Code) (id : Nat) : Array Oper := match c with | none => #[] | some c => (((regs c).find? (·.1 == id)).map (·.2)).getD #[]
theorem s35 : schedP .any (regOf Tryd.f5.body 35) [([0, 1, 2, 3, 4, 5, 6, 7, 8, 9, 10, 11, 12, 13, 14, 15, 16, 17, 18, 19, 20, 21, 22, 23, 24, 25, 26, 27, 28, 29, 30, 31, 32, 33, 34, 35, 37, 38, 39, 40, 41, 42, 43], 36), ([44, 45, 46, 47, 48, 49, 50, 52, 53, 54, 55, 56, 57, 58], 51), ([59, 60, 61, 62, 64], 63), ([65, 66, 67, 68], 69), ([70, 71, 72, 73], 74), ([75, 76, 77, 78, 80], 79)] [81, 82] (Array.replicate 83 false) = true := by kernel_rfl
end Go.Proofs.YtkmlikohgilnbaaDoor.Arb
