/-
  No cell of these rows narrows 'for every input' (looked for: loops, veiled, ifaces, maps, wideKeys, modest, calm, conditions, laid).
  DERIVED. THE GIVEN ROWS OF THIS SEAT. 6 by the template 'for every input the law returns true; each argument reads behind the call as it read before'; 0 by the template 'total and deterministic' (their statements: YthhellgaafbokaaTotals.lean).
  GIVEN WITH THE SEED: the statements are not yours to turn. If you find one false, say at which input.
  Laid BY PROGRAM, IN A SANDBOX (cutbox-rows.mjs): the forced cells as the released guide's own fill.sh prints them over the translation 46cbe77f03541c74… (all of the seat's roots in one cut). By AI agents, Wed Nov 11 2026. No macro, syntax, notation, axiom, sorry.
-/
import Derived.Test.YthhellgaafbokaaChecked
import GoSem.Claim
import GoSem.ClaimJoined
import GoSem.ClaimMapViews
import Derived.JoinedTies
import Derived.KernelRfl
namespace Go.Proofs.Ythhellgaafbokaa
/- THE CELL 'sum', in the pinned program and in every row, IS THE sha256 OF THE DUMP (.gsa) THAT YthhellgaafbokaaProg.lean LOADS. Nothing in Lean hashes anything: it is a label: what it is worth is what the hold of that sum in a sandbox is worth. -/
noncomputable def Try.pinned : Pinned := { name := "ythhellgaafbokaa", sum := "46cbe77f03541c74ba0c5ff99482788b0e233200d6dd1647bb8d5806f48c3dfb", checked := Try.checked }
namespace Rows
def none {H : Type} : Left H := { results := [], args := [] }

/-- 'aileronlaw16.LogGaps': WHATEVER THE INPUT: true; the input reads as it did. -/
def logGapsSpec : ChangeSpec := { name := "logGaps", fn := fun _ => fun
  | [d] => { results := [.lit (.bool true)], args := [d] }
  | _ => none }
def logGapsRow : OpenClaim := { program := "ythhellgaafbokaa", sum := "46cbe77f03541c74ba0c5ff99482788b0e233200d6dd1647bb8d5806f48c3dfb", func := "aileron/aileronlaw16.LogGaps", spec := "logGaps", inPlace := ["sync/atomic.AddInt64", "sync/atomic.LoadUint64", "sync/atomic.StoreUint64"], unfollowed := true, recurses := true, apart := false }
def LogGapsSaid : Prop := logGapsRow.holds Try.pinned (OpenSpec.ofChange logGapsSpec)

/-- ITS FALSE NEIGHBOUR: 'it returns false'. Refute it at one input. -/
def logGapsWrong : ChangeSpec := { name := "logGaps", fn := fun _ => fun
  | [d] => { results := [.lit (.bool false)], args := [d] }
  | _ => none }
def LogGapsWrongFalsely : Prop := logGapsRow.holds Try.pinned (OpenSpec.ofChange logGapsWrong)

/-- 'aileronlaw16.LogParts': WHATEVER THE INPUT: true; the input reads as it did. -/
def logPartsSpec : ChangeSpec := { name := "logParts", fn := fun _ => fun
  | [d1, d2] => { results := [.lit (.bool true)], args := [d1, d2] }
  | _ => none }
def logPartsRow : OpenClaim := { program := "ythhellgaafbokaa", sum := "46cbe77f03541c74ba0c5ff99482788b0e233200d6dd1647bb8d5806f48c3dfb", func := "aileron/aileronlaw16.LogParts", spec := "logParts", inPlace := ["sync/atomic.AddInt64", "sync/atomic.LoadUint64", "sync/atomic.StoreUint64"], unfollowed := true, recurses := true, apart := false }
def LogPartsSaid : Prop := logPartsRow.holds Try.pinned (OpenSpec.ofChange logPartsSpec)

/-- ITS FALSE NEIGHBOUR: 'it returns false'. Refute it at one input. -/
def logPartsWrong : ChangeSpec := { name := "logParts", fn := fun _ => fun
  | [d1, d2] => { results := [.lit (.bool false)], args := [d1, d2] }
  | _ => none }
def LogPartsWrongFalsely : Prop := logPartsRow.holds Try.pinned (OpenSpec.ofChange logPartsWrong)

/-- 'aileronlaw16.LogSounds': WHATEVER THE INPUT: true; the input reads as it did. -/
def logSoundsSpec : ChangeSpec := { name := "logSounds", fn := fun _ => fun
  | [d1, d2, d3] => { results := [.lit (.bool true)], args := [d1, d2, d3] }
  | _ => none }
def logSoundsRow : OpenClaim := { program := "ythhellgaafbokaa", sum := "46cbe77f03541c74ba0c5ff99482788b0e233200d6dd1647bb8d5806f48c3dfb", func := "aileron/aileronlaw16.LogSounds", spec := "logSounds", inPlace := ["sync/atomic.AddInt64", "sync/atomic.LoadUint64", "sync/atomic.StoreUint64"], unfollowed := true, recurses := true, apart := false }
def LogSoundsSaid : Prop := logSoundsRow.holds Try.pinned (OpenSpec.ofChange logSoundsSpec)

/-- ITS FALSE NEIGHBOUR: 'it returns false'. Refute it at one input. -/
def logSoundsWrong : ChangeSpec := { name := "logSounds", fn := fun _ => fun
  | [d1, d2, d3] => { results := [.lit (.bool false)], args := [d1, d2, d3] }
  | _ => none }
def LogSoundsWrongFalsely : Prop := logSoundsRow.holds Try.pinned (OpenSpec.ofChange logSoundsWrong)

/-- 'aileronlaw16.LogNil': WHATEVER THE INPUT: true; the input reads as it did. -/
def logNilSpec : ChangeSpec := { name := "logNil", fn := fun _ => fun
  | [d1, d2] => { results := [.lit (.bool true)], args := [d1, d2] }
  | _ => none }
def logNilRow : OpenClaim := { program := "ythhellgaafbokaa", sum := "46cbe77f03541c74ba0c5ff99482788b0e233200d6dd1647bb8d5806f48c3dfb", func := "aileron/aileronlaw16.LogNil", spec := "logNil", inPlace := ["sync/atomic.AddInt64", "sync/atomic.LoadUint64", "sync/atomic.StoreUint64", "sync/atomic.LoadInt64"], unfollowed := true, recurses := true, apart := false }
def LogNilSaid : Prop := logNilRow.holds Try.pinned (OpenSpec.ofChange logNilSpec)

/-- ITS FALSE NEIGHBOUR: 'it returns false'. Refute it at one input. -/
def logNilWrong : ChangeSpec := { name := "logNil", fn := fun _ => fun
  | [d1, d2] => { results := [.lit (.bool false)], args := [d1, d2] }
  | _ => none }
def LogNilWrongFalsely : Prop := logNilRow.holds Try.pinned (OpenSpec.ofChange logNilWrong)

/-- 'aileronlaw16.LogSteps': WHATEVER THE INPUT: true; the input reads as it did. -/
def logStepsSpec : ChangeSpec := { name := "logSteps", fn := fun _ => fun
  | [d1, d2, d3] => { results := [.lit (.bool true)], args := [d1, d2, d3] }
  | _ => none }
def logStepsRow : OpenClaim := { program := "ythhellgaafbokaa", sum := "46cbe77f03541c74ba0c5ff99482788b0e233200d6dd1647bb8d5806f48c3dfb", func := "aileron/aileronlaw16.LogSteps", spec := "logSteps", inPlace := ["sync/atomic.AddInt64", "sync/atomic.LoadUint64", "sync/atomic.StoreUint64", "sync/atomic.LoadInt64"], unfollowed := true, recurses := true, apart := false }
def LogStepsSaid : Prop := logStepsRow.holds Try.pinned (OpenSpec.ofChange logStepsSpec)

/-- ITS FALSE NEIGHBOUR: 'it returns false'. Refute it at one input. -/
def logStepsWrong : ChangeSpec := { name := "logSteps", fn := fun _ => fun
  | [d1, d2, d3] => { results := [.lit (.bool false)], args := [d1, d2, d3] }
  | _ => none }
def LogStepsWrongFalsely : Prop := logStepsRow.holds Try.pinned (OpenSpec.ofChange logStepsWrong)

/-- 'aileronlaw16.LogKeeps': WHATEVER THE INPUT: true; the input reads as it did. -/
def logKeepsSpec : ChangeSpec := { name := "logKeeps", fn := fun _ => fun
  | [d1, d2] => { results := [.lit (.bool true)], args := [d1, d2] }
  | _ => none }
def logKeepsRow : OpenClaim := { program := "ythhellgaafbokaa", sum := "46cbe77f03541c74ba0c5ff99482788b0e233200d6dd1647bb8d5806f48c3dfb", func := "aileron/aileronlaw16.LogKeeps", spec := "logKeeps", inPlace := ["sync/atomic.AddInt64", "sync/atomic.LoadUint64", "sync/atomic.StoreUint64", "sync/atomic.LoadInt64"], unfollowed := true, recurses := true, apart := false }
def LogKeepsSaid : Prop := logKeepsRow.holds Try.pinned (OpenSpec.ofChange logKeepsSpec)

/-- ITS FALSE NEIGHBOUR: 'it returns false'. Refute it at one input. -/
def logKeepsWrong : ChangeSpec := { name := "logKeeps", fn := fun _ => fun
  | [d1, d2] => { results := [.lit (.bool false)], args := [d1, d2] }
  | _ => none }
def LogKeepsWrongFalsely : Prop := logKeepsRow.holds Try.pinned (OpenSpec.ofChange logKeepsWrong)

/- THE SECOND FORM. 'bulk': how many values and letters a reading holds, each counted each time it is reached (what is shared counts as often as it is met; a slice's spare places count too). A statement '..UptoSaid' is the law's where the arguments, and the package variables that the reading takes, are together of bulk at most 1048576: NARROWER than '..Said'. Prove '..Said' where nothing that the law and all that it calls make is longer than what came in: it says more and counts as full. Else prove '..UptoSaid'. A law counts once. -/
mutual
def uptoBulk {H : Type} : DataW H → Nat
  | .lit (.string bytes) => bytes.length + 1
  | .lit _ => 1
  | .nil => 1
  | .ptr d => uptoBulk d + 1
  | .slice elems spare => uptoBulkAll elems + uptoBulkAll spare + 1
  | .agg parts => uptoBulkAll parts + 1
  | .iface _ d => uptoBulk d + 1
  | .map entries => uptoBulkEntries entries + 1
  | .held _ => 1
def uptoBulkAll {H : Type} : List (DataW H) → Nat
  | [] => 0
  | d :: r => uptoBulk d + uptoBulkAll r
def uptoBulkEntries {H : Type} : List (Lit × DataW H) → Nat
  | [] => 0
  | x :: r => uptoBulkEntry x + uptoBulkEntries r
def uptoBulkEntry {H : Type} : Lit × DataW H → Nat
  | (.string bytes, d) => bytes.length + uptoBulk d + 1
  | (_, d) => uptoBulk d + 1
 end
def uptoSmall : (H : Type) → List (DataW H) → Bool := fun _ ds => decide (uptoBulkAll ds ≤ 1048576)
def OpenSpec.upto (s : _root_.Go.ChangeSpec) : _root_.Go.OpenSpec := { _root_.Go.OpenSpec.ofChange s with cond := some uptoSmall }

/-- 'aileronlaw16.LogGaps', WHERE WHAT IT READS IS OF BULK AT MOST 1048576: true; the input reads as it did. -/
def logGapsUptoRow : OpenClaim := { program := "ythhellgaafbokaa", sum := "46cbe77f03541c74ba0c5ff99482788b0e233200d6dd1647bb8d5806f48c3dfb", func := "aileron/aileronlaw16.LogGaps", spec := "logGaps", inPlace := ["sync/atomic.AddInt64", "sync/atomic.LoadUint64", "sync/atomic.StoreUint64"], unfollowed := true, recurses := true, apart := false, narrowed := true }
def LogGapsUptoSaid : Prop := logGapsUptoRow.holds Try.pinned (OpenSpec.upto logGapsSpec)

/-- 'aileronlaw16.LogParts', WHERE WHAT IT READS IS OF BULK AT MOST 1048576: true; the input reads as it did. -/
def logPartsUptoRow : OpenClaim := { program := "ythhellgaafbokaa", sum := "46cbe77f03541c74ba0c5ff99482788b0e233200d6dd1647bb8d5806f48c3dfb", func := "aileron/aileronlaw16.LogParts", spec := "logParts", inPlace := ["sync/atomic.AddInt64", "sync/atomic.LoadUint64", "sync/atomic.StoreUint64"], unfollowed := true, recurses := true, apart := false, narrowed := true }
def LogPartsUptoSaid : Prop := logPartsUptoRow.holds Try.pinned (OpenSpec.upto logPartsSpec)

/-- 'aileronlaw16.LogSounds', WHERE WHAT IT READS IS OF BULK AT MOST 1048576: true; the input reads as it did. -/
def logSoundsUptoRow : OpenClaim := { program := "ythhellgaafbokaa", sum := "46cbe77f03541c74ba0c5ff99482788b0e233200d6dd1647bb8d5806f48c3dfb", func := "aileron/aileronlaw16.LogSounds", spec := "logSounds", inPlace := ["sync/atomic.AddInt64", "sync/atomic.LoadUint64", "sync/atomic.StoreUint64"], unfollowed := true, recurses := true, apart := false, narrowed := true }
def LogSoundsUptoSaid : Prop := logSoundsUptoRow.holds Try.pinned (OpenSpec.upto logSoundsSpec)

/-- 'aileronlaw16.LogNil', WHERE WHAT IT READS IS OF BULK AT MOST 1048576: true; the input reads as it did. -/
def logNilUptoRow : OpenClaim := { program := "ythhellgaafbokaa", sum := "46cbe77f03541c74ba0c5ff99482788b0e233200d6dd1647bb8d5806f48c3dfb", func := "aileron/aileronlaw16.LogNil", spec := "logNil", inPlace := ["sync/atomic.AddInt64", "sync/atomic.LoadUint64", "sync/atomic.StoreUint64", "sync/atomic.LoadInt64"], unfollowed := true, recurses := true, apart := false, narrowed := true }
def LogNilUptoSaid : Prop := logNilUptoRow.holds Try.pinned (OpenSpec.upto logNilSpec)

/-- 'aileronlaw16.LogSteps', WHERE WHAT IT READS IS OF BULK AT MOST 1048576: true; the input reads as it did. -/
def logStepsUptoRow : OpenClaim := { program := "ythhellgaafbokaa", sum := "46cbe77f03541c74ba0c5ff99482788b0e233200d6dd1647bb8d5806f48c3dfb", func := "aileron/aileronlaw16.LogSteps", spec := "logSteps", inPlace := ["sync/atomic.AddInt64", "sync/atomic.LoadUint64", "sync/atomic.StoreUint64", "sync/atomic.LoadInt64"], unfollowed := true, recurses := true, apart := false, narrowed := true }
def LogStepsUptoSaid : Prop := logStepsUptoRow.holds Try.pinned (OpenSpec.upto logStepsSpec)

/-- 'aileronlaw16.LogKeeps', WHERE WHAT IT READS IS OF BULK AT MOST 1048576: true; the input reads as it did. -/
def logKeepsUptoRow : OpenClaim := { program := "ythhellgaafbokaa", sum := "46cbe77f03541c74ba0c5ff99482788b0e233200d6dd1647bb8d5806f48c3dfb", func := "aileron/aileronlaw16.LogKeeps", spec := "logKeeps", inPlace := ["sync/atomic.AddInt64", "sync/atomic.LoadUint64", "sync/atomic.StoreUint64", "sync/atomic.LoadInt64"], unfollowed := true, recurses := true, apart := false, narrowed := true }
def LogKeepsUptoSaid : Prop := logKeepsUptoRow.holds Try.pinned (OpenSpec.upto logKeepsSpec)

end Rows
end Go.Proofs.Ythhellgaafbokaa
