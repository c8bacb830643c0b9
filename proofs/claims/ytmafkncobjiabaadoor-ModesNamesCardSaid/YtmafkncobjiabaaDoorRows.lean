/-
  NARROWER THAN 'FOR EVERY INPUT', by the rows' own cells (each row's printed sentence says how): ModesWays: laid · ModesPaths: laid · ModesReach: laid · ModesSteps: laid · ModesSafe: laid · ModesNames: laid.
  DERIVED. THE GIVEN ROWS OF THIS SEAT. 6 by the template 'for every input the law returns true; each argument reads behind the call as it read before'; 0 by the template 'total and deterministic' (their statements: YtmafkncobjiabaaDoorTotals.lean).
  GIVEN WITH THE SEED: the statements are not yours to turn. If you find one false, say at which input.
  Laid BY PROGRAM, IN A SANDBOX (cutbox-rows.mjs): the forced cells as the released guide's own fill.sh prints them over the translation 3a6020fbd169f8ab… (all of the seat's roots in one cut). By AI agents, Wed Nov 11 2026. No macro, syntax, notation, axiom, sorry.
-/
import Derived.Test.YtmafkncobjiabaaDoorChecked
import GoSem.Claim
import GoSem.ClaimJoined
import GoSem.ClaimMapViews
import Derived.JoinedTies
import Derived.KernelRfl
namespace Go.Proofs.YtmafkncobjiabaaDoor
/- THE CELL 'sum', in the pinned program and in every row, IS THE sha256 OF THE DUMP (.gsa) THAT YtmafkncobjiabaaDoorProg.lean LOADS. Nothing in Lean hashes anything: it is a label: what it is worth is what the hold of that sum in a sandbox is worth. -/
noncomputable def Tryd.pinned : Pinned := { name := "ytmafkncobjiabaadoor", sum := "3a6020fbd169f8abbe98508f5ac4561905cb986dfc80d638e561acf5f3fb44b3", checked := Tryd.checked }
namespace Rows
def none {H : Type} : Left H := { results := [], args := [] }

/- WHAT THE LISTED PACKAGE-LEVEL VARIABLES READ AS WHEN THE CALL BEGINS. Each datum BY PROGRAM (the guide's laid-datum.mjs) off the statement by which the dump's own 'gosem.cut.vars' lays the variable. In a bare row this is a premise. The card (YtmafkncobjiabaaDoorCards.lean) ties it to the program's text. -/
def laid_aileron_modes_ways {H : Type} : DataW H := .agg [.agg [.lit (.int .i64 0), .lit (.int .i64 4432), .lit (.int .i64 0), .lit (.int .i64 0), .lit (.int .i64 0), .lit (.int .i64 0), .lit (.int .i64 0), .lit (.int .i64 0)], .agg [.lit (.int .i64 4112), .lit (.int .i64 0), .lit (.int .i64 4944), .lit (.int .i64 0), .lit (.int .i64 0), .lit (.int .i64 0), .lit (.int .i64 0), .lit (.int .i64 4096)], .agg [.lit (.int .i64 0), .lit (.int .i64 0), .lit (.int .i64 0), .lit (.int .i64 5184), .lit (.int .i64 0), .lit (.int .i64 0), .lit (.int .i64 4096), .lit (.int .i64 4096)], .agg [.lit (.int .i64 0), .lit (.int .i64 0), .lit (.int .i64 0), .lit (.int .i64 0), .lit (.int .i64 5568), .lit (.int .i64 5248), .lit (.int .i64 6144), .lit (.int .i64 4096)], .agg [.lit (.int .i64 0), .lit (.int .i64 0), .lit (.int .i64 0), .lit (.int .i64 5184), .lit (.int .i64 0), .lit (.int .i64 5248), .lit (.int .i64 6144), .lit (.int .i64 4096)], .agg [.lit (.int .i64 0), .lit (.int .i64 0), .lit (.int .i64 0), .lit (.int .i64 5568), .lit (.int .i64 0), .lit (.int .i64 0), .lit (.int .i64 6144), .lit (.int .i64 4096)], .agg [.lit (.int .i64 4112), .lit (.int .i64 0), .lit (.int .i64 0), .lit (.int .i64 5472), .lit (.int .i64 0), .lit (.int .i64 0), .lit (.int .i64 0), .lit (.int .i64 4096)], .agg [.lit (.int .i64 4112), .lit (.int .i64 0), .lit (.int .i64 0), .lit (.int .i64 6080), .lit (.int .i64 0), .lit (.int .i64 0), .lit (.int .i64 4096), .lit (.int .i64 0)]]

/-- 'aileronlaw13.ModesWays': WHATEVER THE INPUT: true; the input reads as it did. -/
def modesWaysSpec : ChangeSpec := { name := "modesWays", fn := fun _ => fun
  | [d1, d2] => { results := [.lit (.bool true)], args := [d1, d2] }
  | _ => none }
def modesWaysRow : OpenClaim := { program := "ytmafkncobjiabaadoor", sum := "3a6020fbd169f8abbe98508f5ac4561905cb986dfc80d638e561acf5f3fb44b3", func := "aileron/aileronlaw13.ModesWays", spec := "modesWays", named := ["aileron/modes.ways"], apart := false, laid := [("aileron/modes.ways", laid_aileron_modes_ways)] }
def ModesWaysSaid : Prop := modesWaysRow.holds Tryd.pinned (OpenSpec.ofChange modesWaysSpec)

/-- ITS FALSE NEIGHBOUR: 'it returns false'. Refute it at one input. -/
def modesWaysWrong : ChangeSpec := { name := "modesWays", fn := fun _ => fun
  | [d1, d2] => { results := [.lit (.bool false)], args := [d1, d2] }
  | _ => none }
def ModesWaysWrongFalsely : Prop := modesWaysRow.holds Tryd.pinned (OpenSpec.ofChange modesWaysWrong)

/-- 'aileronlaw13.ModesPaths': WHATEVER THE INPUT: true; the input reads as it did. -/
def modesPathsSpec : ChangeSpec := { name := "modesPaths", fn := fun _ => fun
  | [d] => { results := [.lit (.bool true)], args := [d] }
  | _ => none }
def modesPathsRow : OpenClaim := { program := "ytmafkncobjiabaadoor", sum := "3a6020fbd169f8abbe98508f5ac4561905cb986dfc80d638e561acf5f3fb44b3", func := "aileron/aileronlaw13.ModesPaths", spec := "modesPaths", named := ["aileron/modes.ways"], apart := false, laid := [("aileron/modes.ways", laid_aileron_modes_ways)] }
def ModesPathsSaid : Prop := modesPathsRow.holds Tryd.pinned (OpenSpec.ofChange modesPathsSpec)

/-- ITS FALSE NEIGHBOUR: 'it returns false'. Refute it at one input. -/
def modesPathsWrong : ChangeSpec := { name := "modesPaths", fn := fun _ => fun
  | [d] => { results := [.lit (.bool false)], args := [d] }
  | _ => none }
def ModesPathsWrongFalsely : Prop := modesPathsRow.holds Tryd.pinned (OpenSpec.ofChange modesPathsWrong)

/-- 'aileronlaw13.ModesReach': WHATEVER THE INPUT: true; the input reads as it did. -/
def modesReachSpec : ChangeSpec := { name := "modesReach", fn := fun _ => fun
  | [d1, d2] => { results := [.lit (.bool true)], args := [d1, d2] }
  | _ => none }
def modesReachRow : OpenClaim := { program := "ytmafkncobjiabaadoor", sum := "3a6020fbd169f8abbe98508f5ac4561905cb986dfc80d638e561acf5f3fb44b3", func := "aileron/aileronlaw13.ModesReach", spec := "modesReach", recurses := true, named := ["aileron/modes.ways"], apart := false, laid := [("aileron/modes.ways", laid_aileron_modes_ways)] }
def ModesReachSaid : Prop := modesReachRow.holds Tryd.pinned (OpenSpec.ofChange modesReachSpec)

/-- ITS FALSE NEIGHBOUR: 'it returns false'. Refute it at one input. -/
def modesReachWrong : ChangeSpec := { name := "modesReach", fn := fun _ => fun
  | [d1, d2] => { results := [.lit (.bool false)], args := [d1, d2] }
  | _ => none }
def ModesReachWrongFalsely : Prop := modesReachRow.holds Tryd.pinned (OpenSpec.ofChange modesReachWrong)

/-- 'aileronlaw13.ModesSteps': WHATEVER THE INPUT: true; the input reads as it did. -/
def modesStepsSpec : ChangeSpec := { name := "modesSteps", fn := fun _ => fun
  | [d1, d2] => { results := [.lit (.bool true)], args := [d1, d2] }
  | _ => none }
def modesStepsRow : OpenClaim := { program := "ytmafkncobjiabaadoor", sum := "3a6020fbd169f8abbe98508f5ac4561905cb986dfc80d638e561acf5f3fb44b3", func := "aileron/aileronlaw13.ModesSteps", spec := "modesSteps", named := ["aileron/modes.ways"], apart := false, laid := [("aileron/modes.ways", laid_aileron_modes_ways)] }
def ModesStepsSaid : Prop := modesStepsRow.holds Tryd.pinned (OpenSpec.ofChange modesStepsSpec)

/-- ITS FALSE NEIGHBOUR: 'it returns false'. Refute it at one input. -/
def modesStepsWrong : ChangeSpec := { name := "modesSteps", fn := fun _ => fun
  | [d1, d2] => { results := [.lit (.bool false)], args := [d1, d2] }
  | _ => none }
def ModesStepsWrongFalsely : Prop := modesStepsRow.holds Tryd.pinned (OpenSpec.ofChange modesStepsWrong)

/-- 'aileronlaw13.ModesSafe': WHATEVER THE INPUT: true; the input reads as it did. -/
def modesSafeSpec : ChangeSpec := { name := "modesSafe", fn := fun _ => fun
  | [d1, d2] => { results := [.lit (.bool true)], args := [d1, d2] }
  | _ => none }
def modesSafeRow : OpenClaim := { program := "ytmafkncobjiabaadoor", sum := "3a6020fbd169f8abbe98508f5ac4561905cb986dfc80d638e561acf5f3fb44b3", func := "aileron/aileronlaw13.ModesSafe", spec := "modesSafe", named := ["aileron/modes.ways"], apart := false, laid := [("aileron/modes.ways", laid_aileron_modes_ways)] }
def ModesSafeSaid : Prop := modesSafeRow.holds Tryd.pinned (OpenSpec.ofChange modesSafeSpec)

/-- ITS FALSE NEIGHBOUR: 'it returns false'. Refute it at one input. -/
def modesSafeWrong : ChangeSpec := { name := "modesSafe", fn := fun _ => fun
  | [d1, d2] => { results := [.lit (.bool false)], args := [d1, d2] }
  | _ => none }
def ModesSafeWrongFalsely : Prop := modesSafeRow.holds Tryd.pinned (OpenSpec.ofChange modesSafeWrong)

/-- 'aileronlaw13.ModesNames': WHATEVER THE INPUT: true; the input reads as it did. -/
def modesNamesSpec : ChangeSpec := { name := "modesNames", fn := fun _ => fun
  | [d1, d2] => { results := [.lit (.bool true)], args := [d1, d2] }
  | _ => none }
def modesNamesRow : OpenClaim := { program := "ytmafkncobjiabaadoor", sum := "3a6020fbd169f8abbe98508f5ac4561905cb986dfc80d638e561acf5f3fb44b3", func := "aileron/aileronlaw13.ModesNames", spec := "modesNames", named := ["aileron/modes.ways"], apart := false, laid := [("aileron/modes.ways", laid_aileron_modes_ways)] }
def ModesNamesSaid : Prop := modesNamesRow.holds Tryd.pinned (OpenSpec.ofChange modesNamesSpec)

/-- ITS FALSE NEIGHBOUR: 'it returns false'. Refute it at one input. -/
def modesNamesWrong : ChangeSpec := { name := "modesNames", fn := fun _ => fun
  | [d1, d2] => { results := [.lit (.bool false)], args := [d1, d2] }
  | _ => none }
def ModesNamesWrongFalsely : Prop := modesNamesRow.holds Tryd.pinned (OpenSpec.ofChange modesNamesWrong)

/- THE SECOND FORM. 'bulk': how many values and letters a reading holds, each counted each time it is reached (what is shared counts as often as it is met; a slice's spare places count too). A statement '..UptoSaid' is the law's where the arguments, and the package variables that the reading takes, are together of bulk at most 1048576: NARROWER than '..Said'. Prove '..Said' where nothing that the law and all that it calls make is longer than what came in: it says more and counts as full. Else prove '..UptoSaid'. A law counts once. -/
mutual
def uptoBulk {H : Type} : DataW H → Nat
  | .lit (.string bytes) => bytes.length + 1
  | .lit _ => 1
  | .nil => 1
  | .ptr d => uptoBulk d + 1
  | .slice elems spare => uptoBulkAll elems + uptoBulkAll spare + 1
  | .agg parts => uptoBulkAll parts + 1
  | .iface _ d => uptoBulk d + 1
  | .map entries => uptoBulkEntries entries + 1
  | .held _ => 1
def uptoBulkAll {H : Type} : List (DataW H) → Nat
  | [] => 0
  | d :: r => uptoBulk d + uptoBulkAll r
def uptoBulkEntries {H : Type} : List (Lit × DataW H) → Nat
  | [] => 0
  | x :: r => uptoBulkEntry x + uptoBulkEntries r
def uptoBulkEntry {H : Type} : Lit × DataW H → Nat
  | (.string bytes, d) => bytes.length + uptoBulk d + 1
  | (_, d) => uptoBulk d + 1
 end
def uptoSmall : (H : Type) → List (DataW H) → Bool := fun _ ds => decide (uptoBulkAll ds ≤ 1048576)
def OpenSpec.upto (s : _root_.Go.ChangeSpec) : _root_.Go.OpenSpec := { _root_.Go.OpenSpec.ofChange s with cond := some uptoSmall }

/-- 'aileronlaw13.ModesWays', WHERE WHAT IT READS IS OF BULK AT MOST 1048576: true; the input reads as it did. -/
def modesWaysUptoRow : OpenClaim := { program := "ytmafkncobjiabaadoor", sum := "3a6020fbd169f8abbe98508f5ac4561905cb986dfc80d638e561acf5f3fb44b3", func := "aileron/aileronlaw13.ModesWays", spec := "modesWays", named := ["aileron/modes.ways"], apart := false, laid := [("aileron/modes.ways", laid_aileron_modes_ways)], narrowed := true }
def ModesWaysUptoSaid : Prop := modesWaysUptoRow.holds Tryd.pinned (OpenSpec.upto modesWaysSpec)

/-- 'aileronlaw13.ModesPaths', WHERE WHAT IT READS IS OF BULK AT MOST 1048576: true; the input reads as it did. -/
def modesPathsUptoRow : OpenClaim := { program := "ytmafkncobjiabaadoor", sum := "3a6020fbd169f8abbe98508f5ac4561905cb986dfc80d638e561acf5f3fb44b3", func := "aileron/aileronlaw13.ModesPaths", spec := "modesPaths", named := ["aileron/modes.ways"], apart := false, laid := [("aileron/modes.ways", laid_aileron_modes_ways)], narrowed := true }
def ModesPathsUptoSaid : Prop := modesPathsUptoRow.holds Tryd.pinned (OpenSpec.upto modesPathsSpec)

/-- 'aileronlaw13.ModesReach', WHERE WHAT IT READS IS OF BULK AT MOST 1048576: true; the input reads as it did. -/
def modesReachUptoRow : OpenClaim := { program := "ytmafkncobjiabaadoor", sum := "3a6020fbd169f8abbe98508f5ac4561905cb986dfc80d638e561acf5f3fb44b3", func := "aileron/aileronlaw13.ModesReach", spec := "modesReach", recurses := true, named := ["aileron/modes.ways"], apart := false, laid := [("aileron/modes.ways", laid_aileron_modes_ways)], narrowed := true }
def ModesReachUptoSaid : Prop := modesReachUptoRow.holds Tryd.pinned (OpenSpec.upto modesReachSpec)

/-- 'aileronlaw13.ModesSteps', WHERE WHAT IT READS IS OF BULK AT MOST 1048576: true; the input reads as it did. -/
def modesStepsUptoRow : OpenClaim := { program := "ytmafkncobjiabaadoor", sum := "3a6020fbd169f8abbe98508f5ac4561905cb986dfc80d638e561acf5f3fb44b3", func := "aileron/aileronlaw13.ModesSteps", spec := "modesSteps", named := ["aileron/modes.ways"], apart := false, laid := [("aileron/modes.ways", laid_aileron_modes_ways)], narrowed := true }
def ModesStepsUptoSaid : Prop := modesStepsUptoRow.holds Tryd.pinned (OpenSpec.upto modesStepsSpec)

/-- 'aileronlaw13.ModesSafe', WHERE WHAT IT READS IS OF BULK AT MOST 1048576: true; the input reads as it did. -/
def modesSafeUptoRow : OpenClaim := { program := "ytmafkncobjiabaadoor", sum := "3a6020fbd169f8abbe98508f5ac4561905cb986dfc80d638e561acf5f3fb44b3", func := "aileron/aileronlaw13.ModesSafe", spec := "modesSafe", named := ["aileron/modes.ways"], apart := false, laid := [("aileron/modes.ways", laid_aileron_modes_ways)], narrowed := true }
def ModesSafeUptoSaid : Prop := modesSafeUptoRow.holds Tryd.pinned (OpenSpec.upto modesSafeSpec)

/-- 'aileronlaw13.ModesNames', WHERE WHAT IT READS IS OF BULK AT MOST 1048576: true; the input reads as it did. -/
def modesNamesUptoRow : OpenClaim := { program := "ytmafkncobjiabaadoor", sum := "3a6020fbd169f8abbe98508f5ac4561905cb986dfc80d638e561acf5f3fb44b3", func := "aileron/aileronlaw13.ModesNames", spec := "modesNames", named := ["aileron/modes.ways"], apart := false, laid := [("aileron/modes.ways", laid_aileron_modes_ways)], narrowed := true }
def ModesNamesUptoSaid : Prop := modesNamesUptoRow.holds Tryd.pinned (OpenSpec.upto modesNamesSpec)

end Rows
end Go.Proofs.YtmafkncobjiabaaDoor
