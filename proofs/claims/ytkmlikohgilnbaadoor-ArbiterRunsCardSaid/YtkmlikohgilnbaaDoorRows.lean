/-
  NARROWER THAN 'FOR EVERY INPUT', by the rows' own cells (each row's printed sentence says how): ArbiterSpent: laid · ArbiterNil: laid · ArbiterSteps: laid · ArbiterAlone: laid · ArbiterRuns: laid.
  DERIVED. THE GIVEN ROWS OF THIS SEAT. 5 by the template 'for every input the law returns true; each argument reads behind the call as it read before'; 0 by the template 'total and deterministic' (their statements: YtkmlikohgilnbaaDoorTotals.lean).
  GIVEN WITH THE SEED: the statements are not yours to turn. If you find one false, say at which input.
  Laid BY PROGRAM, IN A SANDBOX (cutbox-rows.mjs): the forced cells as the released guide's own fill.sh prints them over the translation 3bfcec34b4cf4af8… (all of the seat's roots in one cut). By AI agents, Wed Nov 11 2026. No macro, syntax, notation, axiom, sorry.
-/
import Derived.Test.YtkmlikohgilnbaaDoorChecked
import GoSem.Claim
import GoSem.ClaimJoined
import GoSem.ClaimMapViews
import Derived.JoinedTies
import Derived.KernelRfl
namespace Go.Proofs.YtkmlikohgilnbaaDoor
/- THE CELL 'sum', in the pinned program and in every row, IS THE sha256 OF THE DUMP (.gsa) THAT YtkmlikohgilnbaaDoorProg.lean LOADS. Nothing in Lean hashes anything: it is a label: what it is worth is what the hold of that sum in a sandbox is worth. -/
noncomputable def Tryd.pinned : Pinned := { name := "ytkmlikohgilnbaadoor", sum := "3bfcec34b4cf4af893137f077d1dec0ef0ddc0f8237098d21c9e55c691e1122e", checked := Tryd.checked }
namespace Rows
def none {H : Type} : Left H := { results := [], args := [] }

/- WHAT THE LISTED PACKAGE-LEVEL VARIABLES READ AS WHEN THE CALL BEGINS. Each datum BY PROGRAM (the guide's laid-datum.mjs) off the statement by which the dump's own 'gosem.cut.vars' lays the variable. In a bare row this is a premise. The card (YtkmlikohgilnbaaDoorCards.lean) ties it to the program's text. -/
def laid_aileron_modes_ways {H : Type} : DataW H := .agg [.agg [.lit (.int .i64 0), .lit (.int .i64 4432), .lit (.int .i64 0), .lit (.int .i64 0), .lit (.int .i64 0), .lit (.int .i64 0), .lit (.int .i64 0), .lit (.int .i64 0)], .agg [.lit (.int .i64 4112), .lit (.int .i64 0), .lit (.int .i64 4944), .lit (.int .i64 0), .lit (.int .i64 0), .lit (.int .i64 0), .lit (.int .i64 0), .lit (.int .i64 4096)], .agg [.lit (.int .i64 0), .lit (.int .i64 0), .lit (.int .i64 0), .lit (.int .i64 5184), .lit (.int .i64 0), .lit (.int .i64 0), .lit (.int .i64 4096), .lit (.int .i64 4096)], .agg [.lit (.int .i64 0), .lit (.int .i64 0), .lit (.int .i64 0), .lit (.int .i64 0), .lit (.int .i64 5568), .lit (.int .i64 5248), .lit (.int .i64 6144), .lit (.int .i64 4096)], .agg [.lit (.int .i64 0), .lit (.int .i64 0), .lit (.int .i64 0), .lit (.int .i64 5184), .lit (.int .i64 0), .lit (.int .i64 5248), .lit (.int .i64 6144), .lit (.int .i64 4096)], .agg [.lit (.int .i64 0), .lit (.int .i64 0), .lit (.int .i64 0), .lit (.int .i64 5568), .lit (.int .i64 0), .lit (.int .i64 0), .lit (.int .i64 6144), .lit (.int .i64 4096)], .agg [.lit (.int .i64 4112), .lit (.int .i64 0), .lit (.int .i64 0), .lit (.int .i64 5472), .lit (.int .i64 0), .lit (.int .i64 0), .lit (.int .i64 0), .lit (.int .i64 4096)], .agg [.lit (.int .i64 4112), .lit (.int .i64 0), .lit (.int .i64 0), .lit (.int .i64 6080), .lit (.int .i64 0), .lit (.int .i64 0), .lit (.int .i64 4096), .lit (.int .i64 0)]]

/-- 'aileronlaw15.ArbiterSpent': WHATEVER THE INPUT: true; the input reads as it did. -/
def arbiterSpentSpec : ChangeSpec := { name := "arbiterSpent", fn := fun _ => fun
  | [d1, d2, d3] => { results := [.lit (.bool true)], args := [d1, d2, d3] }
  | _ => none }
def arbiterSpentRow : OpenClaim := { program := "ytkmlikohgilnbaadoor", sum := "3bfcec34b4cf4af893137f077d1dec0ef0ddc0f8237098d21c9e55c691e1122e", func := "aileron/aileronlaw15.ArbiterSpent", spec := "arbiterSpent", inPlace := ["sync/atomic.AddInt64", "sync/atomic.LoadUint64", "sync/atomic.CompareAndSwapUint64"], unfollowed := true, recurses := true, named := ["aileron/modes.ways"], apart := false, laid := [("aileron/modes.ways", laid_aileron_modes_ways)] }
def ArbiterSpentSaid : Prop := arbiterSpentRow.holds Tryd.pinned (OpenSpec.ofChange arbiterSpentSpec)

/-- ITS FALSE NEIGHBOUR: 'it returns false'. Refute it at one input. -/
def arbiterSpentWrong : ChangeSpec := { name := "arbiterSpent", fn := fun _ => fun
  | [d1, d2, d3] => { results := [.lit (.bool false)], args := [d1, d2, d3] }
  | _ => none }
def ArbiterSpentWrongFalsely : Prop := arbiterSpentRow.holds Tryd.pinned (OpenSpec.ofChange arbiterSpentWrong)

/-- 'aileronlaw15.ArbiterNil': WHATEVER THE INPUT: true; the input reads as it did. -/
def arbiterNilSpec : ChangeSpec := { name := "arbiterNil", fn := fun _ => fun
  | [d1, d2, d3] => { results := [.lit (.bool true)], args := [d1, d2, d3] }
  | _ => none }
def arbiterNilRow : OpenClaim := { program := "ytkmlikohgilnbaadoor", sum := "3bfcec34b4cf4af893137f077d1dec0ef0ddc0f8237098d21c9e55c691e1122e", func := "aileron/aileronlaw15.ArbiterNil", spec := "arbiterNil", inPlace := ["sync/atomic.AddInt64", "sync/atomic.LoadUint64", "sync/atomic.CompareAndSwapUint64", "sync/atomic.LoadInt64"], unfollowed := true, recurses := true, named := ["aileron/modes.ways"], apart := false, laid := [("aileron/modes.ways", laid_aileron_modes_ways)] }
def ArbiterNilSaid : Prop := arbiterNilRow.holds Tryd.pinned (OpenSpec.ofChange arbiterNilSpec)

/-- ITS FALSE NEIGHBOUR: 'it returns false'. Refute it at one input. -/
def arbiterNilWrong : ChangeSpec := { name := "arbiterNil", fn := fun _ => fun
  | [d1, d2, d3] => { results := [.lit (.bool false)], args := [d1, d2, d3] }
  | _ => none }
def ArbiterNilWrongFalsely : Prop := arbiterNilRow.holds Tryd.pinned (OpenSpec.ofChange arbiterNilWrong)

/-- 'aileronlaw15.ArbiterSteps': WHATEVER THE INPUT: true; the input reads as it did. -/
def arbiterStepsSpec : ChangeSpec := { name := "arbiterSteps", fn := fun _ => fun
  | [d1, d2, d3] => { results := [.lit (.bool true)], args := [d1, d2, d3] }
  | _ => none }
def arbiterStepsRow : OpenClaim := { program := "ytkmlikohgilnbaadoor", sum := "3bfcec34b4cf4af893137f077d1dec0ef0ddc0f8237098d21c9e55c691e1122e", func := "aileron/aileronlaw15.ArbiterSteps", spec := "arbiterSteps", inPlace := ["sync/atomic.AddInt64", "sync/atomic.StoreUint64", "sync/atomic.LoadUint64", "sync/atomic.CompareAndSwapUint64", "sync/atomic.LoadInt64"], unfollowed := true, recurses := true, named := ["aileron/modes.ways"], apart := false, laid := [("aileron/modes.ways", laid_aileron_modes_ways)] }
def ArbiterStepsSaid : Prop := arbiterStepsRow.holds Tryd.pinned (OpenSpec.ofChange arbiterStepsSpec)

/-- ITS FALSE NEIGHBOUR: 'it returns false'. Refute it at one input. -/
def arbiterStepsWrong : ChangeSpec := { name := "arbiterSteps", fn := fun _ => fun
  | [d1, d2, d3] => { results := [.lit (.bool false)], args := [d1, d2, d3] }
  | _ => none }
def ArbiterStepsWrongFalsely : Prop := arbiterStepsRow.holds Tryd.pinned (OpenSpec.ofChange arbiterStepsWrong)

/-- 'aileronlaw15.ArbiterAlone': WHATEVER THE INPUT: true; the input reads as it did. -/
def arbiterAloneSpec : ChangeSpec := { name := "arbiterAlone", fn := fun _ => fun
  | [d1, d2, d3] => { results := [.lit (.bool true)], args := [d1, d2, d3] }
  | _ => none }
def arbiterAloneRow : OpenClaim := { program := "ytkmlikohgilnbaadoor", sum := "3bfcec34b4cf4af893137f077d1dec0ef0ddc0f8237098d21c9e55c691e1122e", func := "aileron/aileronlaw15.ArbiterAlone", spec := "arbiterAlone", inPlace := ["sync/atomic.AddInt64", "sync/atomic.LoadUint64", "sync/atomic.CompareAndSwapUint64", "sync/atomic.StoreUint64", "sync/atomic.LoadInt64"], unfollowed := true, recurses := true, named := ["aileron/modes.ways"], apart := false, laid := [("aileron/modes.ways", laid_aileron_modes_ways)] }
def ArbiterAloneSaid : Prop := arbiterAloneRow.holds Tryd.pinned (OpenSpec.ofChange arbiterAloneSpec)

/-- ITS FALSE NEIGHBOUR: 'it returns false'. Refute it at one input. -/
def arbiterAloneWrong : ChangeSpec := { name := "arbiterAlone", fn := fun _ => fun
  | [d1, d2, d3] => { results := [.lit (.bool false)], args := [d1, d2, d3] }
  | _ => none }
def ArbiterAloneWrongFalsely : Prop := arbiterAloneRow.holds Tryd.pinned (OpenSpec.ofChange arbiterAloneWrong)

/-- 'aileronlaw15.ArbiterRuns': WHATEVER THE INPUT: true; the input reads as it did. -/
def arbiterRunsSpec : ChangeSpec := { name := "arbiterRuns", fn := fun _ => fun
  | [d1, d2, d3] => { results := [.lit (.bool true)], args := [d1, d2, d3] }
  | _ => none }
def arbiterRunsRow : OpenClaim := { program := "ytkmlikohgilnbaadoor", sum := "3bfcec34b4cf4af893137f077d1dec0ef0ddc0f8237098d21c9e55c691e1122e", func := "aileron/aileronlaw15.ArbiterRuns", spec := "arbiterRuns", inPlace := ["sync/atomic.AddInt64", "sync/atomic.LoadUint64", "sync/atomic.CompareAndSwapUint64", "sync/atomic.StoreUint64"], unfollowed := true, recurses := true, named := ["aileron/modes.ways"], apart := false, laid := [("aileron/modes.ways", laid_aileron_modes_ways)] }
def ArbiterRunsSaid : Prop := arbiterRunsRow.holds Tryd.pinned (OpenSpec.ofChange arbiterRunsSpec)

/-- ITS FALSE NEIGHBOUR: 'it returns false'. Refute it at one input. -/
def arbiterRunsWrong : ChangeSpec := { name := "arbiterRuns", fn := fun _ => fun
  | [d1, d2, d3] => { results := [.lit (.bool false)], args := [d1, d2, d3] }
  | _ => none }
def ArbiterRunsWrongFalsely : Prop := arbiterRunsRow.holds Tryd.pinned (OpenSpec.ofChange arbiterRunsWrong)

/- THE SECOND FORM. 'bulk': how many values and letters a reading holds, each counted each time it is reached (what is shared counts as often as it is met; a slice's spare places count too). A statement '..UptoSaid' is the law's where the arguments, and the package variables that the reading takes, are together of bulk at most 1048576: NARROWER than '..Said'. Prove '..Said' where nothing that the law and all that it calls make is longer than what came in: it says more and counts as full. Else prove '..UptoSaid'. A law counts once. -/
mutual
def uptoBulk {H : Type} : DataW H → Nat
  | .lit (.string bytes) => bytes.length + 1
  | .lit _ => 1
  | .nil => 1
  | .ptr d => uptoBulk d + 1
  | .slice elems spare => uptoBulkAll elems + uptoBulkAll spare + 1
  | .agg parts => uptoBulkAll parts + 1
  | .iface _ d => uptoBulk d + 1
  | .map entries => uptoBulkEntries entries + 1
  | .held _ => 1
def uptoBulkAll {H : Type} : List (DataW H) → Nat
  | [] => 0
  | d :: r => uptoBulk d + uptoBulkAll r
def uptoBulkEntries {H : Type} : List (Lit × DataW H) → Nat
  | [] => 0
  | x :: r => uptoBulkEntry x + uptoBulkEntries r
def uptoBulkEntry {H : Type} : Lit × DataW H → Nat
  | (.string bytes, d) => bytes.length + uptoBulk d + 1
  | (_, d) => uptoBulk d + 1
 end
def uptoSmall : (H : Type) → List (DataW H) → Bool := fun _ ds => decide (uptoBulkAll ds ≤ 1048576)
def OpenSpec.upto (s : _root_.Go.ChangeSpec) : _root_.Go.OpenSpec := { _root_.Go.OpenSpec.ofChange s with cond := some uptoSmall }

/-- 'aileronlaw15.ArbiterSpent', WHERE WHAT IT READS IS OF BULK AT MOST 1048576: true; the input reads as it did. -/
def arbiterSpentUptoRow : OpenClaim := { program := "ytkmlikohgilnbaadoor", sum := "3bfcec34b4cf4af893137f077d1dec0ef0ddc0f8237098d21c9e55c691e1122e", func := "aileron/aileronlaw15.ArbiterSpent", spec := "arbiterSpent", inPlace := ["sync/atomic.AddInt64", "sync/atomic.LoadUint64", "sync/atomic.CompareAndSwapUint64"], unfollowed := true, recurses := true, named := ["aileron/modes.ways"], apart := false, laid := [("aileron/modes.ways", laid_aileron_modes_ways)], narrowed := true }
def ArbiterSpentUptoSaid : Prop := arbiterSpentUptoRow.holds Tryd.pinned (OpenSpec.upto arbiterSpentSpec)

/-- 'aileronlaw15.ArbiterNil', WHERE WHAT IT READS IS OF BULK AT MOST 1048576: true; the input reads as it did. -/
def arbiterNilUptoRow : OpenClaim := { program := "ytkmlikohgilnbaadoor", sum := "3bfcec34b4cf4af893137f077d1dec0ef0ddc0f8237098d21c9e55c691e1122e", func := "aileron/aileronlaw15.ArbiterNil", spec := "arbiterNil", inPlace := ["sync/atomic.AddInt64", "sync/atomic.LoadUint64", "sync/atomic.CompareAndSwapUint64", "sync/atomic.LoadInt64"], unfollowed := true, recurses := true, named := ["aileron/modes.ways"], apart := false, laid := [("aileron/modes.ways", laid_aileron_modes_ways)], narrowed := true }
def ArbiterNilUptoSaid : Prop := arbiterNilUptoRow.holds Tryd.pinned (OpenSpec.upto arbiterNilSpec)

/-- 'aileronlaw15.ArbiterSteps', WHERE WHAT IT READS IS OF BULK AT MOST 1048576: true; the input reads as it did. -/
def arbiterStepsUptoRow : OpenClaim := { program := "ytkmlikohgilnbaadoor", sum := "3bfcec34b4cf4af893137f077d1dec0ef0ddc0f8237098d21c9e55c691e1122e", func := "aileron/aileronlaw15.ArbiterSteps", spec := "arbiterSteps", inPlace := ["sync/atomic.AddInt64", "sync/atomic.StoreUint64", "sync/atomic.LoadUint64", "sync/atomic.CompareAndSwapUint64", "sync/atomic.LoadInt64"], unfollowed := true, recurses := true, named := ["aileron/modes.ways"], apart := false, laid := [("aileron/modes.ways", laid_aileron_modes_ways)], narrowed := true }
def ArbiterStepsUptoSaid : Prop := arbiterStepsUptoRow.holds Tryd.pinned (OpenSpec.upto arbiterStepsSpec)

/-- 'aileronlaw15.ArbiterAlone', WHERE WHAT IT READS IS OF BULK AT MOST 1048576: true; the input reads as it did. -/
def arbiterAloneUptoRow : OpenClaim := { program := "ytkmlikohgilnbaadoor", sum := "3bfcec34b4cf4af893137f077d1dec0ef0ddc0f8237098d21c9e55c691e1122e", func := "aileron/aileronlaw15.ArbiterAlone", spec := "arbiterAlone", inPlace := ["sync/atomic.AddInt64", "sync/atomic.LoadUint64", "sync/atomic.CompareAndSwapUint64", "sync/atomic.StoreUint64", "sync/atomic.LoadInt64"], unfollowed := true, recurses := true, named := ["aileron/modes.ways"], apart := false, laid := [("aileron/modes.ways", laid_aileron_modes_ways)], narrowed := true }
def ArbiterAloneUptoSaid : Prop := arbiterAloneUptoRow.holds Tryd.pinned (OpenSpec.upto arbiterAloneSpec)

/-- 'aileronlaw15.ArbiterRuns', WHERE WHAT IT READS IS OF BULK AT MOST 1048576: true; the input reads as it did. -/
def arbiterRunsUptoRow : OpenClaim := { program := "ytkmlikohgilnbaadoor", sum := "3bfcec34b4cf4af893137f077d1dec0ef0ddc0f8237098d21c9e55c691e1122e", func := "aileron/aileronlaw15.ArbiterRuns", spec := "arbiterRuns", inPlace := ["sync/atomic.AddInt64", "sync/atomic.LoadUint64", "sync/atomic.CompareAndSwapUint64", "sync/atomic.StoreUint64"], unfollowed := true, recurses := true, named := ["aileron/modes.ways"], apart := false, laid := [("aileron/modes.ways", laid_aileron_modes_ways)], narrowed := true }
def ArbiterRunsUptoSaid : Prop := arbiterRunsUptoRow.holds Tryd.pinned (OpenSpec.upto arbiterRunsSpec)

end Rows
end Go.Proofs.YtkmlikohgilnbaaDoor
