/-
  No cell of these rows narrows 'for every input' (looked for: loops, veiled, ifaces, maps, wideKeys, modest, calm, conditions, laid).
  DERIVED. THE GIVEN ROWS OF THIS SEAT. 7 by the template 'for every input the law returns true; each argument reads behind the call as it read before'; 0 by the template 'total and deterministic' (their statements: YtabhkplcigdafaaTotals.lean).
  GIVEN WITH THE SEED: the statements are not yours to turn. If you find one false, say at which input.
  Laid BY PROGRAM, IN A SANDBOX (cutbox-rows.mjs): the forced cells as the released guide's own fill.sh prints them over the translation 5ebdd39d4d304d0b… (all of the seat's roots in one cut). By AI agents, Wed Nov 11 2026. No macro, syntax, notation, axiom, sorry.
-/
import Derived.Test.YtabhkplcigdafaaChecked
import GoSem.Claim
import GoSem.ClaimJoined
import GoSem.ClaimMapViews
import Derived.JoinedTies
import Derived.KernelRfl
namespace Go.Proofs.Ytabhkplcigdafaa
/- THE CELL 'sum', in the pinned program and in every row, IS THE sha256 OF THE DUMP (.gsa) THAT YtabhkplcigdafaaProg.lean LOADS. Nothing in Lean hashes anything: it is a label: what it is worth is what the hold of that sum in a sandbox is worth. -/
noncomputable def Try.pinned : Pinned := { name := "ytabhkplcigdafaa", sum := "5ebdd39d4d304d0b1c25a6c18368b04891cdc79ceef2e922e1eed92da4097fa4", checked := Try.checked }
namespace Rows
def none {H : Type} : Left H := { results := [], args := [] }

/-- 'aileronlaw01.BankLock': WHATEVER THE INPUT: true; the input reads as it did. -/
def bankLockSpec : ChangeSpec := { name := "bankLock", fn := fun _ => fun
  | [d] => { results := [.lit (.bool true)], args := [d] }
  | _ => none }
def bankLockRow : OpenClaim := { program := "ytabhkplcigdafaa", sum := "5ebdd39d4d304d0b1c25a6c18368b04891cdc79ceef2e922e1eed92da4097fa4", func := "aileron/aileronlaw01.BankLock", spec := "bankLock", inPlace := ["sync/atomic.AddInt64", "sync/atomic.AddUint64", "sync/atomic.CompareAndSwapUint64", "sync/atomic.LoadUint64", "sync/atomic.LoadInt64"], apart := false }
def BankLockSaid : Prop := bankLockRow.holds Try.pinned (OpenSpec.ofChange bankLockSpec)

/-- ITS FALSE NEIGHBOUR: 'it returns false'. Refute it at one input. -/
def bankLockWrong : ChangeSpec := { name := "bankLock", fn := fun _ => fun
  | [d] => { results := [.lit (.bool false)], args := [d] }
  | _ => none }
def BankLockWrongFalsely : Prop := bankLockRow.holds Try.pinned (OpenSpec.ofChange bankLockWrong)

/-- 'aileronlaw01.BankMost': WHATEVER THE INPUT: true; the input reads as it did. -/
def bankMostSpec : ChangeSpec := { name := "bankMost", fn := fun _ => fun
  | [d1, d2] => { results := [.lit (.bool true)], args := [d1, d2] }
  | _ => none }
def bankMostRow : OpenClaim := { program := "ytabhkplcigdafaa", sum := "5ebdd39d4d304d0b1c25a6c18368b04891cdc79ceef2e922e1eed92da4097fa4", func := "aileron/aileronlaw01.BankMost", spec := "bankMost", inPlace := ["sync/atomic.AddInt64", "sync/atomic.AddUint64", "sync/atomic.CompareAndSwapUint64", "sync/atomic.LoadUint64", "sync/atomic.LoadInt64"], apart := false }
def BankMostSaid : Prop := bankMostRow.holds Try.pinned (OpenSpec.ofChange bankMostSpec)

/-- ITS FALSE NEIGHBOUR: 'it returns false'. Refute it at one input. -/
def bankMostWrong : ChangeSpec := { name := "bankMost", fn := fun _ => fun
  | [d1, d2] => { results := [.lit (.bool false)], args := [d1, d2] }
  | _ => none }
def BankMostWrongFalsely : Prop := bankMostRow.holds Try.pinned (OpenSpec.ofChange bankMostWrong)

/-- 'aileronlaw01.BankMay': WHATEVER THE INPUT: true; the input reads as it did. -/
def bankMaySpec : ChangeSpec := { name := "bankMay", fn := fun _ => fun
  | [d] => { results := [.lit (.bool true)], args := [d] }
  | _ => none }
def bankMayRow : OpenClaim := { program := "ytabhkplcigdafaa", sum := "5ebdd39d4d304d0b1c25a6c18368b04891cdc79ceef2e922e1eed92da4097fa4", func := "aileron/aileronlaw01.BankMay", spec := "bankMay", inPlace := ["sync/atomic.AddInt64", "sync/atomic.AddUint64", "sync/atomic.CompareAndSwapUint64", "sync/atomic.LoadUint64", "sync/atomic.LoadInt64"], apart := false }
def BankMaySaid : Prop := bankMayRow.holds Try.pinned (OpenSpec.ofChange bankMaySpec)

/-- ITS FALSE NEIGHBOUR: 'it returns false'. Refute it at one input. -/
def bankMayWrong : ChangeSpec := { name := "bankMay", fn := fun _ => fun
  | [d] => { results := [.lit (.bool false)], args := [d] }
  | _ => none }
def BankMayWrongFalsely : Prop := bankMayRow.holds Try.pinned (OpenSpec.ofChange bankMayWrong)

/-- 'aileronlaw01.BankTickets': WHATEVER THE INPUT: true; the input reads as it did. -/
def bankTicketsSpec : ChangeSpec := { name := "bankTickets", fn := fun _ => fun
  | [d1, d2] => { results := [.lit (.bool true)], args := [d1, d2] }
  | _ => none }
def bankTicketsRow : OpenClaim := { program := "ytabhkplcigdafaa", sum := "5ebdd39d4d304d0b1c25a6c18368b04891cdc79ceef2e922e1eed92da4097fa4", func := "aileron/aileronlaw01.BankTickets", spec := "bankTickets", inPlace := ["sync/atomic.AddInt64", "sync/atomic.AddUint64", "sync/atomic.CompareAndSwapUint64", "sync/atomic.LoadUint64", "sync/atomic.LoadInt64", "sync/atomic.StoreUint64"], apart := false }
def BankTicketsSaid : Prop := bankTicketsRow.holds Try.pinned (OpenSpec.ofChange bankTicketsSpec)

/-- ITS FALSE NEIGHBOUR: 'it returns false'. Refute it at one input. -/
def bankTicketsWrong : ChangeSpec := { name := "bankTickets", fn := fun _ => fun
  | [d1, d2] => { results := [.lit (.bool false)], args := [d1, d2] }
  | _ => none }
def BankTicketsWrongFalsely : Prop := bankTicketsRow.holds Try.pinned (OpenSpec.ofChange bankTicketsWrong)

/-- 'aileronlaw01.BankLeaves': WHATEVER THE INPUT: true; the input reads as it did. -/
def bankLeavesSpec : ChangeSpec := { name := "bankLeaves", fn := fun _ => fun
  | [d] => { results := [.lit (.bool true)], args := [d] }
  | _ => none }
def bankLeavesRow : OpenClaim := { program := "ytabhkplcigdafaa", sum := "5ebdd39d4d304d0b1c25a6c18368b04891cdc79ceef2e922e1eed92da4097fa4", func := "aileron/aileronlaw01.BankLeaves", spec := "bankLeaves", inPlace := ["sync/atomic.AddInt64", "sync/atomic.AddUint64", "sync/atomic.CompareAndSwapUint64", "sync/atomic.LoadUint64", "sync/atomic.LoadInt64", "sync/atomic.StoreUint64"], apart := false }
def BankLeavesSaid : Prop := bankLeavesRow.holds Try.pinned (OpenSpec.ofChange bankLeavesSpec)

/-- ITS FALSE NEIGHBOUR: 'it returns false'. Refute it at one input. -/
def bankLeavesWrong : ChangeSpec := { name := "bankLeaves", fn := fun _ => fun
  | [d] => { results := [.lit (.bool false)], args := [d] }
  | _ => none }
def BankLeavesWrongFalsely : Prop := bankLeavesRow.holds Try.pinned (OpenSpec.ofChange bankLeavesWrong)

/-- 'aileronlaw01.BankActs': WHATEVER THE INPUT: true; the input reads as it did. -/
def bankActsSpec : ChangeSpec := { name := "bankActs", fn := fun _ => fun
  | [d1, d2] => { results := [.lit (.bool true)], args := [d1, d2] }
  | _ => none }
def bankActsRow : OpenClaim := { program := "ytabhkplcigdafaa", sum := "5ebdd39d4d304d0b1c25a6c18368b04891cdc79ceef2e922e1eed92da4097fa4", func := "aileron/aileronlaw01.BankActs", spec := "bankActs", inPlace := ["sync/atomic.AddInt64", "sync/atomic.AddUint64", "sync/atomic.CompareAndSwapUint64", "sync/atomic.LoadUint64", "sync/atomic.LoadInt64", "sync/atomic.StoreUint64"], apart := false }
def BankActsSaid : Prop := bankActsRow.holds Try.pinned (OpenSpec.ofChange bankActsSpec)

/-- ITS FALSE NEIGHBOUR: 'it returns false'. Refute it at one input. -/
def bankActsWrong : ChangeSpec := { name := "bankActs", fn := fun _ => fun
  | [d1, d2] => { results := [.lit (.bool false)], args := [d1, d2] }
  | _ => none }
def BankActsWrongFalsely : Prop := bankActsRow.holds Try.pinned (OpenSpec.ofChange bankActsWrong)

/-- 'aileronlaw01.BankClone': WHATEVER THE INPUT: true; the input reads as it did. -/
def bankCloneSpec : ChangeSpec := { name := "bankClone", fn := fun _ => fun
  | [d1, d2] => { results := [.lit (.bool true)], args := [d1, d2] }
  | _ => none }
def bankCloneRow : OpenClaim := { program := "ytabhkplcigdafaa", sum := "5ebdd39d4d304d0b1c25a6c18368b04891cdc79ceef2e922e1eed92da4097fa4", func := "aileron/aileronlaw01.BankClone", spec := "bankClone", inPlace := ["sync/atomic.AddInt64", "sync/atomic.AddUint64", "sync/atomic.CompareAndSwapUint64", "sync/atomic.LoadUint64", "sync/atomic.LoadInt64", "sync/atomic.StoreUint64", "sync/atomic.StoreInt64"], apart := false }
def BankCloneSaid : Prop := bankCloneRow.holds Try.pinned (OpenSpec.ofChange bankCloneSpec)

/-- ITS FALSE NEIGHBOUR: 'it returns false'. Refute it at one input. -/
def bankCloneWrong : ChangeSpec := { name := "bankClone", fn := fun _ => fun
  | [d1, d2] => { results := [.lit (.bool false)], args := [d1, d2] }
  | _ => none }
def BankCloneWrongFalsely : Prop := bankCloneRow.holds Try.pinned (OpenSpec.ofChange bankCloneWrong)

/- THE SECOND FORM. 'bulk': how many values and letters a reading holds, each counted each time it is reached (what is shared counts as often as it is met; a slice's spare places count too). A statement '..UptoSaid' is the law's where the arguments, and the package variables that the reading takes, are together of bulk at most 1048576: NARROWER than '..Said'. Prove '..Said' where nothing that the law and all that it calls make is longer than what came in: it says more and counts as full. Else prove '..UptoSaid'. A law counts once. -/
mutual
def uptoBulk {H : Type} : DataW H → Nat
  | .lit (.string bytes) => bytes.length + 1
  | .lit _ => 1
  | .nil => 1
  | .ptr d => uptoBulk d + 1
  | .slice elems spare => uptoBulkAll elems + uptoBulkAll spare + 1
  | .agg parts => uptoBulkAll parts + 1
  | .iface _ d => uptoBulk d + 1
  | .map entries => uptoBulkEntries entries + 1
  | .held _ => 1
def uptoBulkAll {H : Type} : List (DataW H) → Nat
  | [] => 0
  | d :: r => uptoBulk d + uptoBulkAll r
def uptoBulkEntries {H : Type} : List (Lit × DataW H) → Nat
  | [] => 0
  | x :: r => uptoBulkEntry x + uptoBulkEntries r
def uptoBulkEntry {H : Type} : Lit × DataW H → Nat
  | (.string bytes, d) => bytes.length + uptoBulk d + 1
  | (_, d) => uptoBulk d + 1
 end
def uptoSmall : (H : Type) → List (DataW H) → Bool := fun _ ds => decide (uptoBulkAll ds ≤ 1048576)
def OpenSpec.upto (s : _root_.Go.ChangeSpec) : _root_.Go.OpenSpec := { _root_.Go.OpenSpec.ofChange s with cond := some uptoSmall }

/-- 'aileronlaw01.BankLock', WHERE WHAT IT READS IS OF BULK AT MOST 1048576: true; the input reads as it did. -/
def bankLockUptoRow : OpenClaim := { program := "ytabhkplcigdafaa", sum := "5ebdd39d4d304d0b1c25a6c18368b04891cdc79ceef2e922e1eed92da4097fa4", func := "aileron/aileronlaw01.BankLock", spec := "bankLock", inPlace := ["sync/atomic.AddInt64", "sync/atomic.AddUint64", "sync/atomic.CompareAndSwapUint64", "sync/atomic.LoadUint64", "sync/atomic.LoadInt64"], apart := false, narrowed := true }
def BankLockUptoSaid : Prop := bankLockUptoRow.holds Try.pinned (OpenSpec.upto bankLockSpec)

/-- 'aileronlaw01.BankMost', WHERE WHAT IT READS IS OF BULK AT MOST 1048576: true; the input reads as it did. -/
def bankMostUptoRow : OpenClaim := { program := "ytabhkplcigdafaa", sum := "5ebdd39d4d304d0b1c25a6c18368b04891cdc79ceef2e922e1eed92da4097fa4", func := "aileron/aileronlaw01.BankMost", spec := "bankMost", inPlace := ["sync/atomic.AddInt64", "sync/atomic.AddUint64", "sync/atomic.CompareAndSwapUint64", "sync/atomic.LoadUint64", "sync/atomic.LoadInt64"], apart := false, narrowed := true }
def BankMostUptoSaid : Prop := bankMostUptoRow.holds Try.pinned (OpenSpec.upto bankMostSpec)

/-- 'aileronlaw01.BankMay', WHERE WHAT IT READS IS OF BULK AT MOST 1048576: true; the input reads as it did. -/
def bankMayUptoRow : OpenClaim := { program := "ytabhkplcigdafaa", sum := "5ebdd39d4d304d0b1c25a6c18368b04891cdc79ceef2e922e1eed92da4097fa4", func := "aileron/aileronlaw01.BankMay", spec := "bankMay", inPlace := ["sync/atomic.AddInt64", "sync/atomic.AddUint64", "sync/atomic.CompareAndSwapUint64", "sync/atomic.LoadUint64", "sync/atomic.LoadInt64"], apart := false, narrowed := true }
def BankMayUptoSaid : Prop := bankMayUptoRow.holds Try.pinned (OpenSpec.upto bankMaySpec)

/-- 'aileronlaw01.BankTickets', WHERE WHAT IT READS IS OF BULK AT MOST 1048576: true; the input reads as it did. -/
def bankTicketsUptoRow : OpenClaim := { program := "ytabhkplcigdafaa", sum := "5ebdd39d4d304d0b1c25a6c18368b04891cdc79ceef2e922e1eed92da4097fa4", func := "aileron/aileronlaw01.BankTickets", spec := "bankTickets", inPlace := ["sync/atomic.AddInt64", "sync/atomic.AddUint64", "sync/atomic.CompareAndSwapUint64", "sync/atomic.LoadUint64", "sync/atomic.LoadInt64", "sync/atomic.StoreUint64"], apart := false, narrowed := true }
def BankTicketsUptoSaid : Prop := bankTicketsUptoRow.holds Try.pinned (OpenSpec.upto bankTicketsSpec)

/-- 'aileronlaw01.BankLeaves', WHERE WHAT IT READS IS OF BULK AT MOST 1048576: true; the input reads as it did. -/
def bankLeavesUptoRow : OpenClaim := { program := "ytabhkplcigdafaa", sum := "5ebdd39d4d304d0b1c25a6c18368b04891cdc79ceef2e922e1eed92da4097fa4", func := "aileron/aileronlaw01.BankLeaves", spec := "bankLeaves", inPlace := ["sync/atomic.AddInt64", "sync/atomic.AddUint64", "sync/atomic.CompareAndSwapUint64", "sync/atomic.LoadUint64", "sync/atomic.LoadInt64", "sync/atomic.StoreUint64"], apart := false, narrowed := true }
def BankLeavesUptoSaid : Prop := bankLeavesUptoRow.holds Try.pinned (OpenSpec.upto bankLeavesSpec)

/-- 'aileronlaw01.BankActs', WHERE WHAT IT READS IS OF BULK AT MOST 1048576: true; the input reads as it did. -/
def bankActsUptoRow : OpenClaim := { program := "ytabhkplcigdafaa", sum := "5ebdd39d4d304d0b1c25a6c18368b04891cdc79ceef2e922e1eed92da4097fa4", func := "aileron/aileronlaw01.BankActs", spec := "bankActs", inPlace := ["sync/atomic.AddInt64", "sync/atomic.AddUint64", "sync/atomic.CompareAndSwapUint64", "sync/atomic.LoadUint64", "sync/atomic.LoadInt64", "sync/atomic.StoreUint64"], apart := false, narrowed := true }
def BankActsUptoSaid : Prop := bankActsUptoRow.holds Try.pinned (OpenSpec.upto bankActsSpec)

/-- 'aileronlaw01.BankClone', WHERE WHAT IT READS IS OF BULK AT MOST 1048576: true; the input reads as it did. -/
def bankCloneUptoRow : OpenClaim := { program := "ytabhkplcigdafaa", sum := "5ebdd39d4d304d0b1c25a6c18368b04891cdc79ceef2e922e1eed92da4097fa4", func := "aileron/aileronlaw01.BankClone", spec := "bankClone", inPlace := ["sync/atomic.AddInt64", "sync/atomic.AddUint64", "sync/atomic.CompareAndSwapUint64", "sync/atomic.LoadUint64", "sync/atomic.LoadInt64", "sync/atomic.StoreUint64", "sync/atomic.StoreInt64"], apart := false, narrowed := true }
def BankCloneUptoSaid : Prop := bankCloneUptoRow.holds Try.pinned (OpenSpec.upto bankCloneSpec)

end Rows
end Go.Proofs.Ytabhkplcigdafaa
