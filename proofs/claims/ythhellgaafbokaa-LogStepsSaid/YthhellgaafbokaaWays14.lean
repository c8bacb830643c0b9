/-
  Modes: the walks through ways and guards. Condition: the table of ways lies in block 0. By an AI agent.
-/
import Derived.Test.YthhellgaafbokaaProg
import Derived.Test.YthhellgaafbokaaModes
import Derived.WalkKit
import Derived.Lib.Hide
import Derived.Deep.QuietTactic
import Derived.BigQuiet
import Derived.Laws.BitsAllLaws
import Derived.Laws.BitsLemmas
namespace Go.Proofs.Ythhellgaafbokaa.Modes
set_option linter.unusedVariables false
set_option linter.unusedSimpArgs false
open Go Go.RowKit Go.Proofs.Ythhellgaafbokaa.Base

end Go.Proofs.Ythhellgaafbokaa.Modes
