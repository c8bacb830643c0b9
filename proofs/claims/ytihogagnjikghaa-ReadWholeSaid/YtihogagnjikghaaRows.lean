/-
  No cell of these rows narrows 'for every input' (looked for: loops, veiled, ifaces, maps, wideKeys, modest, calm, conditions, laid).
  DERIVED. THE GIVEN ROWS OF THIS SEAT. 4 by the template 'for every input the law returns true; each argument reads behind the call as it read before'; 0 by the template 'total and deterministic' (their statements: YtihogagnjikghaaTotals.lean).
  GIVEN WITH THE SEED: the statements are not yours to turn. If you find one false, say at which input.
  Laid BY PROGRAM, IN A SANDBOX (cutbox-rows.mjs): the forced cells as the released guide's own fill.sh prints them over the translation 838fad36efd25769… (all of the seat's roots in one cut). By AI agents, Wed Nov 11 2026. No macro, syntax, notation, axiom, sorry.
-/
import Derived.Test.YtihogagnjikghaaChecked
import GoSem.Claim
import GoSem.ClaimJoined
import GoSem.ClaimMapViews
import Derived.JoinedTies
import Derived.KernelRfl
namespace Go.Proofs.Ytihogagnjikghaa
/- THE CELL 'sum', in the pinned program and in every row, IS THE sha256 OF THE DUMP (.gsa) THAT YtihogagnjikghaaProg.lean LOADS. Nothing in Lean hashes anything: it is a label: what it is worth is what the hold of that sum in a sandbox is worth. -/
noncomputable def Try.pinned : Pinned := { name := "ytihogagnjikghaa", sum := "838fad36efd257697f1467b73e07b81211c76955727c828f90109fe4b18ca24b", checked := Try.checked }
namespace Rows
def none {H : Type} : Left H := { results := [], args := [] }

/-- 'aileronlaw09.ReadSteps': WHATEVER THE INPUT: true; the input reads as it did. -/
def readStepsSpec : ChangeSpec := { name := "readSteps", fn := fun _ => fun
  | [d1, d2, d3] => { results := [.lit (.bool true)], args := [d1, d2, d3] }
  | _ => none }
def readStepsRow : OpenClaim := { program := "ytihogagnjikghaa", sum := "838fad36efd257697f1467b73e07b81211c76955727c828f90109fe4b18ca24b", func := "aileron/aileronlaw09.ReadSteps", spec := "readSteps", inPlace := ["sync/atomic.AddInt64", "sync/atomic.LoadUint64", "sync/atomic.StoreUint64"], apart := false }
def ReadStepsSaid : Prop := readStepsRow.holds Try.pinned (OpenSpec.ofChange readStepsSpec)

/-- ITS FALSE NEIGHBOUR: 'it returns false'. Refute it at one input. -/
def readStepsWrong : ChangeSpec := { name := "readSteps", fn := fun _ => fun
  | [d1, d2, d3] => { results := [.lit (.bool false)], args := [d1, d2, d3] }
  | _ => none }
def ReadStepsWrongFalsely : Prop := readStepsRow.holds Try.pinned (OpenSpec.ofChange readStepsWrong)

/-- 'aileronlaw09.ReadWhole': WHATEVER THE INPUT: true; the input reads as it did. -/
def readWholeSpec : ChangeSpec := { name := "readWhole", fn := fun _ => fun
  | [d1, d2, d3] => { results := [.lit (.bool true)], args := [d1, d2, d3] }
  | _ => none }
def readWholeRow : OpenClaim := { program := "ytihogagnjikghaa", sum := "838fad36efd257697f1467b73e07b81211c76955727c828f90109fe4b18ca24b", func := "aileron/aileronlaw09.ReadWhole", spec := "readWhole", inPlace := ["sync/atomic.AddInt64", "sync/atomic.LoadUint64", "sync/atomic.CompareAndSwapUint64", "sync/atomic.StoreUint64"], apart := false }
def ReadWholeSaid : Prop := readWholeRow.holds Try.pinned (OpenSpec.ofChange readWholeSpec)

/-- ITS FALSE NEIGHBOUR: 'it returns false'. Refute it at one input. -/
def readWholeWrong : ChangeSpec := { name := "readWhole", fn := fun _ => fun
  | [d1, d2, d3] => { results := [.lit (.bool false)], args := [d1, d2, d3] }
  | _ => none }
def ReadWholeWrongFalsely : Prop := readWholeRow.holds Try.pinned (OpenSpec.ofChange readWholeWrong)

/-- 'aileronlaw09.ReadOwn': WHATEVER THE INPUT: true; the input reads as it did. -/
def readOwnSpec : ChangeSpec := { name := "readOwn", fn := fun _ => fun
  | [d1, d2] => { results := [.lit (.bool true)], args := [d1, d2] }
  | _ => none }
def readOwnRow : OpenClaim := { program := "ytihogagnjikghaa", sum := "838fad36efd257697f1467b73e07b81211c76955727c828f90109fe4b18ca24b", func := "aileron/aileronlaw09.ReadOwn", spec := "readOwn", inPlace := ["sync/atomic.AddInt64", "sync/atomic.LoadUint64", "sync/atomic.CompareAndSwapUint64", "sync/atomic.StoreUint64", "sync/atomic.LoadInt64"], apart := false }
def ReadOwnSaid : Prop := readOwnRow.holds Try.pinned (OpenSpec.ofChange readOwnSpec)

/-- ITS FALSE NEIGHBOUR: 'it returns false'. Refute it at one input. -/
def readOwnWrong : ChangeSpec := { name := "readOwn", fn := fun _ => fun
  | [d1, d2] => { results := [.lit (.bool false)], args := [d1, d2] }
  | _ => none }
def ReadOwnWrongFalsely : Prop := readOwnRow.holds Try.pinned (OpenSpec.ofChange readOwnWrong)

/-- 'aileronlaw09.ReadAlone': WHATEVER THE INPUT: true; the input reads as it did. -/
def readAloneSpec : ChangeSpec := { name := "readAlone", fn := fun _ => fun
  | [d1, d2, d3] => { results := [.lit (.bool true)], args := [d1, d2, d3] }
  | _ => none }
def readAloneRow : OpenClaim := { program := "ytihogagnjikghaa", sum := "838fad36efd257697f1467b73e07b81211c76955727c828f90109fe4b18ca24b", func := "aileron/aileronlaw09.ReadAlone", spec := "readAlone", inPlace := ["sync/atomic.AddInt64", "sync/atomic.LoadUint64", "sync/atomic.CompareAndSwapUint64", "sync/atomic.StoreUint64", "sync/atomic.LoadInt64", "sync/atomic.StoreInt64"], apart := false }
def ReadAloneSaid : Prop := readAloneRow.holds Try.pinned (OpenSpec.ofChange readAloneSpec)

/-- ITS FALSE NEIGHBOUR: 'it returns false'. Refute it at one input. -/
def readAloneWrong : ChangeSpec := { name := "readAlone", fn := fun _ => fun
  | [d1, d2, d3] => { results := [.lit (.bool false)], args := [d1, d2, d3] }
  | _ => none }
def ReadAloneWrongFalsely : Prop := readAloneRow.holds Try.pinned (OpenSpec.ofChange readAloneWrong)

/- THE SECOND FORM. 'bulk': how many values and letters a reading holds, each counted each time it is reached (what is shared counts as often as it is met; a slice's spare places count too). A statement '..UptoSaid' is the law's where the arguments, and the package variables that the reading takes, are together of bulk at most 1048576: NARROWER than '..Said'. Prove '..Said' where nothing that the law and all that it calls make is longer than what came in: it says more and counts as full. Else prove '..UptoSaid'. A law counts once. -/
mutual
def uptoBulk {H : Type} : DataW H → Nat
  | .lit (.string bytes) => bytes.length + 1
  | .lit _ => 1
  | .nil => 1
  | .ptr d => uptoBulk d + 1
  | .slice elems spare => uptoBulkAll elems + uptoBulkAll spare + 1
  | .agg parts => uptoBulkAll parts + 1
  | .iface _ d => uptoBulk d + 1
  | .map entries => uptoBulkEntries entries + 1
  | .held _ => 1
def uptoBulkAll {H : Type} : List (DataW H) → Nat
  | [] => 0
  | d :: r => uptoBulk d + uptoBulkAll r
def uptoBulkEntries {H : Type} : List (Lit × DataW H) → Nat
  | [] => 0
  | x :: r => uptoBulkEntry x + uptoBulkEntries r
def uptoBulkEntry {H : Type} : Lit × DataW H → Nat
  | (.string bytes, d) => bytes.length + uptoBulk d + 1
  | (_, d) => uptoBulk d + 1
 end
def uptoSmall : (H : Type) → List (DataW H) → Bool := fun _ ds => decide (uptoBulkAll ds ≤ 1048576)
def OpenSpec.upto (s : _root_.Go.ChangeSpec) : _root_.Go.OpenSpec := { _root_.Go.OpenSpec.ofChange s with cond := some uptoSmall }

/-- 'aileronlaw09.ReadSteps', WHERE WHAT IT READS IS OF BULK AT MOST 1048576: true; the input reads as it did. -/
def readStepsUptoRow : OpenClaim := { program := "ytihogagnjikghaa", sum := "838fad36efd257697f1467b73e07b81211c76955727c828f90109fe4b18ca24b", func := "aileron/aileronlaw09.ReadSteps", spec := "readSteps", inPlace := ["sync/atomic.AddInt64", "sync/atomic.LoadUint64", "sync/atomic.StoreUint64"], apart := false, narrowed := true }
def ReadStepsUptoSaid : Prop := readStepsUptoRow.holds Try.pinned (OpenSpec.upto readStepsSpec)

/-- 'aileronlaw09.ReadWhole', WHERE WHAT IT READS IS OF BULK AT MOST 1048576: true; the input reads as it did. -/
def readWholeUptoRow : OpenClaim := { program := "ytihogagnjikghaa", sum := "838fad36efd257697f1467b73e07b81211c76955727c828f90109fe4b18ca24b", func := "aileron/aileronlaw09.ReadWhole", spec := "readWhole", inPlace := ["sync/atomic.AddInt64", "sync/atomic.LoadUint64", "sync/atomic.CompareAndSwapUint64", "sync/atomic.StoreUint64"], apart := false, narrowed := true }
def ReadWholeUptoSaid : Prop := readWholeUptoRow.holds Try.pinned (OpenSpec.upto readWholeSpec)

/-- 'aileronlaw09.ReadOwn', WHERE WHAT IT READS IS OF BULK AT MOST 1048576: true; the input reads as it did. -/
def readOwnUptoRow : OpenClaim := { program := "ytihogagnjikghaa", sum := "838fad36efd257697f1467b73e07b81211c76955727c828f90109fe4b18ca24b", func := "aileron/aileronlaw09.ReadOwn", spec := "readOwn", inPlace := ["sync/atomic.AddInt64", "sync/atomic.LoadUint64", "sync/atomic.CompareAndSwapUint64", "sync/atomic.StoreUint64", "sync/atomic.LoadInt64"], apart := false, narrowed := true }
def ReadOwnUptoSaid : Prop := readOwnUptoRow.holds Try.pinned (OpenSpec.upto readOwnSpec)

/-- 'aileronlaw09.ReadAlone', WHERE WHAT IT READS IS OF BULK AT MOST 1048576: true; the input reads as it did. -/
def readAloneUptoRow : OpenClaim := { program := "ytihogagnjikghaa", sum := "838fad36efd257697f1467b73e07b81211c76955727c828f90109fe4b18ca24b", func := "aileron/aileronlaw09.ReadAlone", spec := "readAlone", inPlace := ["sync/atomic.AddInt64", "sync/atomic.LoadUint64", "sync/atomic.CompareAndSwapUint64", "sync/atomic.StoreUint64", "sync/atomic.LoadInt64", "sync/atomic.StoreInt64"], apart := false, narrowed := true }
def ReadAloneUptoSaid : Prop := readAloneUptoRow.holds Try.pinned (OpenSpec.upto readAloneSpec)

end Rows
end Go.Proofs.Ytihogagnjikghaa
