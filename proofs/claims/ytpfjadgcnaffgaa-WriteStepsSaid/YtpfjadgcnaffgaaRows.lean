/-
  No cell of these rows narrows 'for every input' (looked for: loops, veiled, ifaces, maps, wideKeys, modest, calm, conditions, laid).
  DERIVED. THE GIVEN ROWS OF THIS SEAT. 5 by the template 'for every input the law returns true; each argument reads behind the call as it read before'; 0 by the template 'total and deterministic' (their statements: YtpfjadgcnaffgaaTotals.lean).
  GIVEN WITH THE SEED: the statements are not yours to turn. If you find one false, say at which input.
  Laid BY PROGRAM, IN A SANDBOX (cutbox-rows.mjs): the forced cells as the released guide's own fill.sh prints them over the translation e561d1ee14369b67… (all of the seat's roots in one cut). By AI agents, Wed Nov 11 2026. No macro, syntax, notation, axiom, sorry.
-/
import Derived.Test.YtpfjadgcnaffgaaChecked
import GoSem.Claim
import GoSem.ClaimJoined
import GoSem.ClaimMapViews
import Derived.JoinedTies
import Derived.KernelRfl
namespace Go.Proofs.Ytpfjadgcnaffgaa
/- THE CELL 'sum', in the pinned program and in every row, IS THE sha256 OF THE DUMP (.gsa) THAT YtpfjadgcnaffgaaProg.lean LOADS. Nothing in Lean hashes anything: it is a label: what it is worth is what the hold of that sum in a sandbox is worth. -/
noncomputable def Try.pinned : Pinned := { name := "ytpfjadgcnaffgaa", sum := "e561d1ee14369b670fe18c225afc38d77df5c503b9d9dbab7def1001755f1a73", checked := Try.checked }
namespace Rows
def none {H : Type} : Left H := { results := [], args := [] }

/-- 'aileronlaw08.WriteSteps': WHATEVER THE INPUT: true; the input reads as it did. -/
def writeStepsSpec : ChangeSpec := { name := "writeSteps", fn := fun _ => fun
  | [d1, d2, d3] => { results := [.lit (.bool true)], args := [d1, d2, d3] }
  | _ => none }
def writeStepsRow : OpenClaim := { program := "ytpfjadgcnaffgaa", sum := "e561d1ee14369b670fe18c225afc38d77df5c503b9d9dbab7def1001755f1a73", func := "aileron/aileronlaw08.WriteSteps", spec := "writeSteps", inPlace := ["sync/atomic.AddInt64", "sync/atomic.LoadUint64", "sync/atomic.CompareAndSwapUint64", "sync/atomic.StoreUint64"], apart := false }
def WriteStepsSaid : Prop := writeStepsRow.holds Try.pinned (OpenSpec.ofChange writeStepsSpec)

/-- ITS FALSE NEIGHBOUR: 'it returns false'. Refute it at one input. -/
def writeStepsWrong : ChangeSpec := { name := "writeSteps", fn := fun _ => fun
  | [d1, d2, d3] => { results := [.lit (.bool false)], args := [d1, d2, d3] }
  | _ => none }
def WriteStepsWrongFalsely : Prop := writeStepsRow.holds Try.pinned (OpenSpec.ofChange writeStepsWrong)

/-- 'aileronlaw08.WriteBound': WHATEVER THE INPUT: true; the input reads as it did. -/
def writeBoundSpec : ChangeSpec := { name := "writeBound", fn := fun _ => fun
  | [d1, d2, d3] => { results := [.lit (.bool true)], args := [d1, d2, d3] }
  | _ => none }
def writeBoundRow : OpenClaim := { program := "ytpfjadgcnaffgaa", sum := "e561d1ee14369b670fe18c225afc38d77df5c503b9d9dbab7def1001755f1a73", func := "aileron/aileronlaw08.WriteBound", spec := "writeBound", inPlace := ["sync/atomic.AddInt64", "sync/atomic.LoadUint64", "sync/atomic.CompareAndSwapUint64", "sync/atomic.StoreUint64"], apart := false }
def WriteBoundSaid : Prop := writeBoundRow.holds Try.pinned (OpenSpec.ofChange writeBoundSpec)

/-- ITS FALSE NEIGHBOUR: 'it returns false'. Refute it at one input. -/
def writeBoundWrong : ChangeSpec := { name := "writeBound", fn := fun _ => fun
  | [d1, d2, d3] => { results := [.lit (.bool false)], args := [d1, d2, d3] }
  | _ => none }
def WriteBoundWrongFalsely : Prop := writeBoundRow.holds Try.pinned (OpenSpec.ofChange writeBoundWrong)

/-- 'aileronlaw08.WriteNil': WHATEVER THE INPUT: true; the input reads as it did. -/
def writeNilSpec : ChangeSpec := { name := "writeNil", fn := fun _ => fun
  | [d1, d2] => { results := [.lit (.bool true)], args := [d1, d2] }
  | _ => none }
def writeNilRow : OpenClaim := { program := "ytpfjadgcnaffgaa", sum := "e561d1ee14369b670fe18c225afc38d77df5c503b9d9dbab7def1001755f1a73", func := "aileron/aileronlaw08.WriteNil", spec := "writeNil", inPlace := ["sync/atomic.AddInt64", "sync/atomic.LoadUint64", "sync/atomic.CompareAndSwapUint64", "sync/atomic.StoreUint64", "sync/atomic.LoadInt64"], apart := false }
def WriteNilSaid : Prop := writeNilRow.holds Try.pinned (OpenSpec.ofChange writeNilSpec)

/-- ITS FALSE NEIGHBOUR: 'it returns false'. Refute it at one input. -/
def writeNilWrong : ChangeSpec := { name := "writeNil", fn := fun _ => fun
  | [d1, d2] => { results := [.lit (.bool false)], args := [d1, d2] }
  | _ => none }
def WriteNilWrongFalsely : Prop := writeNilRow.holds Try.pinned (OpenSpec.ofChange writeNilWrong)

/-- 'aileronlaw08.WriteOnce': WHATEVER THE INPUT: true; the input reads as it did. -/
def writeOnceSpec : ChangeSpec := { name := "writeOnce", fn := fun _ => fun
  | [d1, d2, d3] => { results := [.lit (.bool true)], args := [d1, d2, d3] }
  | _ => none }
def writeOnceRow : OpenClaim := { program := "ytpfjadgcnaffgaa", sum := "e561d1ee14369b670fe18c225afc38d77df5c503b9d9dbab7def1001755f1a73", func := "aileron/aileronlaw08.WriteOnce", spec := "writeOnce", inPlace := ["sync/atomic.AddInt64", "sync/atomic.LoadUint64", "sync/atomic.CompareAndSwapUint64", "sync/atomic.StoreUint64", "sync/atomic.LoadInt64", "sync/atomic.StoreInt64"], apart := false }
def WriteOnceSaid : Prop := writeOnceRow.holds Try.pinned (OpenSpec.ofChange writeOnceSpec)

/-- ITS FALSE NEIGHBOUR: 'it returns false'. Refute it at one input. -/
def writeOnceWrong : ChangeSpec := { name := "writeOnce", fn := fun _ => fun
  | [d1, d2, d3] => { results := [.lit (.bool false)], args := [d1, d2, d3] }
  | _ => none }
def WriteOnceWrongFalsely : Prop := writeOnceRow.holds Try.pinned (OpenSpec.ofChange writeOnceWrong)

/-- 'aileronlaw08.WriteAlone': WHATEVER THE INPUT: true; the input reads as it did. -/
def writeAloneSpec : ChangeSpec := { name := "writeAlone", fn := fun _ => fun
  | [d1, d2] => { results := [.lit (.bool true)], args := [d1, d2] }
  | _ => none }
def writeAloneRow : OpenClaim := { program := "ytpfjadgcnaffgaa", sum := "e561d1ee14369b670fe18c225afc38d77df5c503b9d9dbab7def1001755f1a73", func := "aileron/aileronlaw08.WriteAlone", spec := "writeAlone", inPlace := ["sync/atomic.AddInt64", "sync/atomic.LoadUint64", "sync/atomic.CompareAndSwapUint64", "sync/atomic.StoreUint64", "sync/atomic.LoadInt64", "sync/atomic.StoreInt64"], apart := false }
def WriteAloneSaid : Prop := writeAloneRow.holds Try.pinned (OpenSpec.ofChange writeAloneSpec)

/-- ITS FALSE NEIGHBOUR: 'it returns false'. Refute it at one input. -/
def writeAloneWrong : ChangeSpec := { name := "writeAlone", fn := fun _ => fun
  | [d1, d2] => { results := [.lit (.bool false)], args := [d1, d2] }
  | _ => none }
def WriteAloneWrongFalsely : Prop := writeAloneRow.holds Try.pinned (OpenSpec.ofChange writeAloneWrong)

/- THE SECOND FORM. 'bulk': how many values and letters a reading holds, each counted each time it is reached (what is shared counts as often as it is met; a slice's spare places count too). A statement '..UptoSaid' is the law's where the arguments, and the package variables that the reading takes, are together of bulk at most 1048576: NARROWER than '..Said'. Prove '..Said' where nothing that the law and all that it calls make is longer than what came in: it says more and counts as full. Else prove '..UptoSaid'. A law counts once. -/
mutual
def uptoBulk {H : Type} : DataW H → Nat
  | .lit (.string bytes) => bytes.length + 1
  | .lit _ => 1
  | .nil => 1
  | .ptr d => uptoBulk d + 1
  | .slice elems spare => uptoBulkAll elems + uptoBulkAll spare + 1
  | .agg parts => uptoBulkAll parts + 1
  | .iface _ d => uptoBulk d + 1
  | .map entries => uptoBulkEntries entries + 1
  | .held _ => 1
def uptoBulkAll {H : Type} : List (DataW H) → Nat
  | [] => 0
  | d :: r => uptoBulk d + uptoBulkAll r
def uptoBulkEntries {H : Type} : List (Lit × DataW H) → Nat
  | [] => 0
  | x :: r => uptoBulkEntry x + uptoBulkEntries r
def uptoBulkEntry {H : Type} : Lit × DataW H → Nat
  | (.string bytes, d) => bytes.length + uptoBulk d + 1
  | (_, d) => uptoBulk d + 1
 end
def uptoSmall : (H : Type) → List (DataW H) → Bool := fun _ ds => decide (uptoBulkAll ds ≤ 1048576)
def OpenSpec.upto (s : _root_.Go.ChangeSpec) : _root_.Go.OpenSpec := { _root_.Go.OpenSpec.ofChange s with cond := some uptoSmall }

/-- 'aileronlaw08.WriteSteps', WHERE WHAT IT READS IS OF BULK AT MOST 1048576: true; the input reads as it did. -/
def writeStepsUptoRow : OpenClaim := { program := "ytpfjadgcnaffgaa", sum := "e561d1ee14369b670fe18c225afc38d77df5c503b9d9dbab7def1001755f1a73", func := "aileron/aileronlaw08.WriteSteps", spec := "writeSteps", inPlace := ["sync/atomic.AddInt64", "sync/atomic.LoadUint64", "sync/atomic.CompareAndSwapUint64", "sync/atomic.StoreUint64"], apart := false, narrowed := true }
def WriteStepsUptoSaid : Prop := writeStepsUptoRow.holds Try.pinned (OpenSpec.upto writeStepsSpec)

/-- 'aileronlaw08.WriteBound', WHERE WHAT IT READS IS OF BULK AT MOST 1048576: true; the input reads as it did. -/
def writeBoundUptoRow : OpenClaim := { program := "ytpfjadgcnaffgaa", sum := "e561d1ee14369b670fe18c225afc38d77df5c503b9d9dbab7def1001755f1a73", func := "aileron/aileronlaw08.WriteBound", spec := "writeBound", inPlace := ["sync/atomic.AddInt64", "sync/atomic.LoadUint64", "sync/atomic.CompareAndSwapUint64", "sync/atomic.StoreUint64"], apart := false, narrowed := true }
def WriteBoundUptoSaid : Prop := writeBoundUptoRow.holds Try.pinned (OpenSpec.upto writeBoundSpec)

/-- 'aileronlaw08.WriteNil', WHERE WHAT IT READS IS OF BULK AT MOST 1048576: true; the input reads as it did. -/
def writeNilUptoRow : OpenClaim := { program := "ytpfjadgcnaffgaa", sum := "e561d1ee14369b670fe18c225afc38d77df5c503b9d9dbab7def1001755f1a73", func := "aileron/aileronlaw08.WriteNil", spec := "writeNil", inPlace := ["sync/atomic.AddInt64", "sync/atomic.LoadUint64", "sync/atomic.CompareAndSwapUint64", "sync/atomic.StoreUint64", "sync/atomic.LoadInt64"], apart := false, narrowed := true }
def WriteNilUptoSaid : Prop := writeNilUptoRow.holds Try.pinned (OpenSpec.upto writeNilSpec)

/-- 'aileronlaw08.WriteOnce', WHERE WHAT IT READS IS OF BULK AT MOST 1048576: true; the input reads as it did. -/
def writeOnceUptoRow : OpenClaim := { program := "ytpfjadgcnaffgaa", sum := "e561d1ee14369b670fe18c225afc38d77df5c503b9d9dbab7def1001755f1a73", func := "aileron/aileronlaw08.WriteOnce", spec := "writeOnce", inPlace := ["sync/atomic.AddInt64", "sync/atomic.LoadUint64", "sync/atomic.CompareAndSwapUint64", "sync/atomic.StoreUint64", "sync/atomic.LoadInt64", "sync/atomic.StoreInt64"], apart := false, narrowed := true }
def WriteOnceUptoSaid : Prop := writeOnceUptoRow.holds Try.pinned (OpenSpec.upto writeOnceSpec)

/-- 'aileronlaw08.WriteAlone', WHERE WHAT IT READS IS OF BULK AT MOST 1048576: true; the input reads as it did. -/
def writeAloneUptoRow : OpenClaim := { program := "ytpfjadgcnaffgaa", sum := "e561d1ee14369b670fe18c225afc38d77df5c503b9d9dbab7def1001755f1a73", func := "aileron/aileronlaw08.WriteAlone", spec := "writeAlone", inPlace := ["sync/atomic.AddInt64", "sync/atomic.LoadUint64", "sync/atomic.CompareAndSwapUint64", "sync/atomic.StoreUint64", "sync/atomic.LoadInt64", "sync/atomic.StoreInt64"], apart := false, narrowed := true }
def WriteAloneUptoSaid : Prop := writeAloneUptoRow.holds Try.pinned (OpenSpec.upto writeAloneSpec)

end Rows
end Go.Proofs.Ytpfjadgcnaffgaa
