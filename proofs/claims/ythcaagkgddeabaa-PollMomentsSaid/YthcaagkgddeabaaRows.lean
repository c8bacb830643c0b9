/-
  No cell of these rows narrows 'for every input' (looked for: loops, veiled, ifaces, maps, wideKeys, modest, calm, conditions, laid).
  DERIVED. THE GIVEN ROWS OF THIS SEAT. 4 by the template 'for every input the law returns true; each argument reads behind the call as it read before'; 0 by the template 'total and deterministic' (their statements: YthcaagkgddeabaaTotals.lean).
  GIVEN WITH THE SEED: the statements are not yours to turn. If you find one false, say at which input.
  Laid BY PROGRAM, IN A SANDBOX (cutbox-rows.mjs): the forced cells as the released guide's own fill.sh prints them over the translation 60829863bfff8b92… (all of the seat's roots in one cut). By AI agents, Wed Nov 11 2026. No macro, syntax, notation, axiom, sorry.
-/
import Derived.Test.YthcaagkgddeabaaChecked
import GoSem.Claim
import GoSem.ClaimJoined
import GoSem.ClaimMapViews
import Derived.JoinedTies
import Derived.KernelRfl
namespace Go.Proofs.Ythcaagkgddeabaa
/- THE CELL 'sum', in the pinned program and in every row, IS THE sha256 OF THE DUMP (.gsa) THAT YthcaagkgddeabaaProg.lean LOADS. Nothing in Lean hashes anything: it is a label: what it is worth is what the hold of that sum in a sandbox is worth. -/
noncomputable def Try.pinned : Pinned := { name := "ythcaagkgddeabaa", sum := "60829863bfff8b9276f6f0da6f21b37ed62d09ae029d72574e5f049fddb71d19", checked := Try.checked }
namespace Rows
def none {H : Type} : Left H := { results := [], args := [] }

/-- 'aileronlaw12.PollNil': WHATEVER THE INPUT: true; the input reads as it did. -/
def pollNilSpec : ChangeSpec := { name := "pollNil", fn := fun _ => fun
  | [d1, d2] => { results := [.lit (.bool true)], args := [d1, d2] }
  | _ => none }
def pollNilRow : OpenClaim := { program := "ythcaagkgddeabaa", sum := "60829863bfff8b9276f6f0da6f21b37ed62d09ae029d72574e5f049fddb71d19", func := "aileron/aileronlaw12.PollNil", spec := "pollNil", inPlace := ["sync/atomic.AddInt64", "sync/atomic.LoadUint64", "sync/atomic.StoreUint64", "sync/atomic.LoadInt64"], unfollowed := true, recurses := true, apart := false }
def PollNilSaid : Prop := pollNilRow.holds Try.pinned (OpenSpec.ofChange pollNilSpec)

/-- ITS FALSE NEIGHBOUR: 'it returns false'. Refute it at one input. -/
def pollNilWrong : ChangeSpec := { name := "pollNil", fn := fun _ => fun
  | [d1, d2] => { results := [.lit (.bool false)], args := [d1, d2] }
  | _ => none }
def PollNilWrongFalsely : Prop := pollNilRow.holds Try.pinned (OpenSpec.ofChange pollNilWrong)

/-- 'aileronlaw12.PollMoments': WHATEVER THE INPUT: true; the input reads as it did. -/
def pollMomentsSpec : ChangeSpec := { name := "pollMoments", fn := fun _ => fun
  | [d1, d2, d3] => { results := [.lit (.bool true)], args := [d1, d2, d3] }
  | _ => none }
def pollMomentsRow : OpenClaim := { program := "ythcaagkgddeabaa", sum := "60829863bfff8b9276f6f0da6f21b37ed62d09ae029d72574e5f049fddb71d19", func := "aileron/aileronlaw12.PollMoments", spec := "pollMoments", inPlace := ["sync/atomic.AddInt64", "sync/atomic.LoadUint64", "sync/atomic.StoreUint64"], unfollowed := true, recurses := true, apart := false }
def PollMomentsSaid : Prop := pollMomentsRow.holds Try.pinned (OpenSpec.ofChange pollMomentsSpec)

/-- ITS FALSE NEIGHBOUR: 'it returns false'. Refute it at one input. -/
def pollMomentsWrong : ChangeSpec := { name := "pollMoments", fn := fun _ => fun
  | [d1, d2, d3] => { results := [.lit (.bool false)], args := [d1, d2, d3] }
  | _ => none }
def PollMomentsWrongFalsely : Prop := pollMomentsRow.holds Try.pinned (OpenSpec.ofChange pollMomentsWrong)

/-- 'aileronlaw12.PollAlone': WHATEVER THE INPUT: true; the input reads as it did. -/
def pollAloneSpec : ChangeSpec := { name := "pollAlone", fn := fun _ => fun
  | [d1, d2] => { results := [.lit (.bool true)], args := [d1, d2] }
  | _ => none }
def pollAloneRow : OpenClaim := { program := "ythcaagkgddeabaa", sum := "60829863bfff8b9276f6f0da6f21b37ed62d09ae029d72574e5f049fddb71d19", func := "aileron/aileronlaw12.PollAlone", spec := "pollAlone", inPlace := ["sync/atomic.AddInt64", "sync/atomic.LoadUint64", "sync/atomic.StoreUint64", "sync/atomic.LoadInt64"], unfollowed := true, recurses := true, apart := false }
def PollAloneSaid : Prop := pollAloneRow.holds Try.pinned (OpenSpec.ofChange pollAloneSpec)

/-- ITS FALSE NEIGHBOUR: 'it returns false'. Refute it at one input. -/
def pollAloneWrong : ChangeSpec := { name := "pollAlone", fn := fun _ => fun
  | [d1, d2] => { results := [.lit (.bool false)], args := [d1, d2] }
  | _ => none }
def PollAloneWrongFalsely : Prop := pollAloneRow.holds Try.pinned (OpenSpec.ofChange pollAloneWrong)

/-- 'aileronlaw12.PollSteps': WHATEVER THE INPUT: true; the input reads as it did. -/
def pollStepsSpec : ChangeSpec := { name := "pollSteps", fn := fun _ => fun
  | [d1, d2, d3] => { results := [.lit (.bool true)], args := [d1, d2, d3] }
  | _ => none }
def pollStepsRow : OpenClaim := { program := "ythcaagkgddeabaa", sum := "60829863bfff8b9276f6f0da6f21b37ed62d09ae029d72574e5f049fddb71d19", func := "aileron/aileronlaw12.PollSteps", spec := "pollSteps", inPlace := ["sync/atomic.AddInt64", "sync/atomic.LoadUint64", "sync/atomic.StoreUint64", "sync/atomic.LoadInt64"], unfollowed := true, recurses := true, apart := false }
def PollStepsSaid : Prop := pollStepsRow.holds Try.pinned (OpenSpec.ofChange pollStepsSpec)

/-- ITS FALSE NEIGHBOUR: 'it returns false'. Refute it at one input. -/
def pollStepsWrong : ChangeSpec := { name := "pollSteps", fn := fun _ => fun
  | [d1, d2, d3] => { results := [.lit (.bool false)], args := [d1, d2, d3] }
  | _ => none }
def PollStepsWrongFalsely : Prop := pollStepsRow.holds Try.pinned (OpenSpec.ofChange pollStepsWrong)

/- THE SECOND FORM. 'bulk': how many values and letters a reading holds, each counted each time it is reached (what is shared counts as often as it is met; a slice's spare places count too). A statement '..UptoSaid' is the law's where the arguments, and the package variables that the reading takes, are together of bulk at most 1048576: NARROWER than '..Said'. Prove '..Said' where nothing that the law and all that it calls make is longer than what came in: it says more and counts as full. Else prove '..UptoSaid'. A law counts once. -/
mutual
def uptoBulk {H : Type} : DataW H → Nat
  | .lit (.string bytes) => bytes.length + 1
  | .lit _ => 1
  | .nil => 1
  | .ptr d => uptoBulk d + 1
  | .slice elems spare => uptoBulkAll elems + uptoBulkAll spare + 1
  | .agg parts => uptoBulkAll parts + 1
  | .iface _ d => uptoBulk d + 1
  | .map entries => uptoBulkEntries entries + 1
  | .held _ => 1
def uptoBulkAll {H : Type} : List (DataW H) → Nat
  | [] => 0
  | d :: r => uptoBulk d + uptoBulkAll r
def uptoBulkEntries {H : Type} : List (Lit × DataW H) → Nat
  | [] => 0
  | x :: r => uptoBulkEntry x + uptoBulkEntries r
def uptoBulkEntry {H : Type} : Lit × DataW H → Nat
  | (.string bytes, d) => bytes.length + uptoBulk d + 1
  | (_, d) => uptoBulk d + 1
 end
def uptoSmall : (H : Type) → List (DataW H) → Bool := fun _ ds => decide (uptoBulkAll ds ≤ 1048576)
def OpenSpec.upto (s : _root_.Go.ChangeSpec) : _root_.Go.OpenSpec := { _root_.Go.OpenSpec.ofChange s with cond := some uptoSmall }

/-- 'aileronlaw12.PollNil', WHERE WHAT IT READS IS OF BULK AT MOST 1048576: true; the input reads as it did. -/
def pollNilUptoRow : OpenClaim := { program := "ythcaagkgddeabaa", sum := "60829863bfff8b9276f6f0da6f21b37ed62d09ae029d72574e5f049fddb71d19", func := "aileron/aileronlaw12.PollNil", spec := "pollNil", inPlace := ["sync/atomic.AddInt64", "sync/atomic.LoadUint64", "sync/atomic.StoreUint64", "sync/atomic.LoadInt64"], unfollowed := true, recurses := true, apart := false, narrowed := true }
def PollNilUptoSaid : Prop := pollNilUptoRow.holds Try.pinned (OpenSpec.upto pollNilSpec)

/-- 'aileronlaw12.PollMoments', WHERE WHAT IT READS IS OF BULK AT MOST 1048576: true; the input reads as it did. -/
def pollMomentsUptoRow : OpenClaim := { program := "ythcaagkgddeabaa", sum := "60829863bfff8b9276f6f0da6f21b37ed62d09ae029d72574e5f049fddb71d19", func := "aileron/aileronlaw12.PollMoments", spec := "pollMoments", inPlace := ["sync/atomic.AddInt64", "sync/atomic.LoadUint64", "sync/atomic.StoreUint64"], unfollowed := true, recurses := true, apart := false, narrowed := true }
def PollMomentsUptoSaid : Prop := pollMomentsUptoRow.holds Try.pinned (OpenSpec.upto pollMomentsSpec)

/-- 'aileronlaw12.PollAlone', WHERE WHAT IT READS IS OF BULK AT MOST 1048576: true; the input reads as it did. -/
def pollAloneUptoRow : OpenClaim := { program := "ythcaagkgddeabaa", sum := "60829863bfff8b9276f6f0da6f21b37ed62d09ae029d72574e5f049fddb71d19", func := "aileron/aileronlaw12.PollAlone", spec := "pollAlone", inPlace := ["sync/atomic.AddInt64", "sync/atomic.LoadUint64", "sync/atomic.StoreUint64", "sync/atomic.LoadInt64"], unfollowed := true, recurses := true, apart := false, narrowed := true }
def PollAloneUptoSaid : Prop := pollAloneUptoRow.holds Try.pinned (OpenSpec.upto pollAloneSpec)

/-- 'aileronlaw12.PollSteps', WHERE WHAT IT READS IS OF BULK AT MOST 1048576: true; the input reads as it did. -/
def pollStepsUptoRow : OpenClaim := { program := "ythcaagkgddeabaa", sum := "60829863bfff8b9276f6f0da6f21b37ed62d09ae029d72574e5f049fddb71d19", func := "aileron/aileronlaw12.PollSteps", spec := "pollSteps", inPlace := ["sync/atomic.AddInt64", "sync/atomic.LoadUint64", "sync/atomic.StoreUint64", "sync/atomic.LoadInt64"], unfollowed := true, recurses := true, apart := false, narrowed := true }
def PollStepsUptoSaid : Prop := pollStepsUptoRow.holds Try.pinned (OpenSpec.upto pollStepsSpec)

end Rows
end Go.Proofs.Ythcaagkgddeabaa
