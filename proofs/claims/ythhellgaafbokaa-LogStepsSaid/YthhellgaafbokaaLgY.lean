/-
  The regions of a body; the order of one of log.Sound's regions: it is as it is said to be. No condition. By an AI agent.
-/
import Derived.Test.YthhellgaafbokaaProg
import Derived.Test.YthhellgaafbokaaEx
namespace Go.Proofs.Ythhellgaafbokaa.Lg
open Go Go.RowKit Go.Proofs.Ythhellgaafbokaa.Base
def regs : Code → List (Nat × Array Oper)
  | .region i ops true => [(i, ops)]
  | .seq a b => regs a ++ regs b
  | .cond _ a b => regs a ++ regs b
  | .block _ a => regs a
  | .loop a => regs a
  | .scope a => regs a
  | .rangeFunc _ _ a b => regs a ++ regs b
  | _ => []
def regOf (c : Option Code) (id : Nat) : Array Oper := match c with | none => #[] | some c => (((regs c).find? (·.1 == id)).map (·.2)).getD #[]
theorem s4 : schedP .any (regOf Try.f10.body 4) [([0], 1)] [2, 3, 4, 5, 6, 7, 8, 9, 10, 11, 12, 13, 14, 15, 16, 17, 18, 19, 20, 21, 22, 23, 24, 25, 26] (Array.replicate 27 false) = true := by kernel_rfl
end Go.Proofs.Ythhellgaafbokaa.Lg
