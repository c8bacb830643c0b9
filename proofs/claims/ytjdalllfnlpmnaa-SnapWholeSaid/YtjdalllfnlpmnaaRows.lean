/-
  No cell of these rows narrows 'for every input' (looked for: loops, veiled, ifaces, maps, wideKeys, modest, calm, conditions, laid).
  DERIVED. THE GIVEN ROWS OF THIS SEAT. 5 by the template 'for every input the law returns true; each argument reads behind the call as it read before'; 0 by the template 'total and deterministic' (their statements: YtjdalllfnlpmnaaTotals.lean).
  GIVEN WITH THE SEED: the statements are not yours to turn. If you find one false, say at which input.
  Laid BY PROGRAM, IN A SANDBOX (cutbox-rows.mjs): the forced cells as the released guide's own fill.sh prints them over the translation 66339a3da62bdea0… (all of the seat's roots in one cut). By AI agents, Wed Nov 11 2026. No macro, syntax, notation, axiom, sorry.
-/
import Derived.Test.YtjdalllfnlpmnaaChecked
import GoSem.Claim
import GoSem.ClaimJoined
import GoSem.ClaimMapViews
import Derived.JoinedTies
import Derived.KernelRfl
namespace Go.Proofs.Ytjdalllfnlpmnaa
/- THE CELL 'sum', in the pinned program and in every row, IS THE sha256 OF THE DUMP (.gsa) THAT YtjdalllfnlpmnaaProg.lean LOADS. Nothing in Lean hashes anything: it is a label: what it is worth is what the hold of that sum in a sandbox is worth. -/
noncomputable def Try.pinned : Pinned := { name := "ytjdalllfnlpmnaa", sum := "66339a3da62bdea02bdc40e5819b8724b98c66a1ebbfd44e5b54f6f9f85bb24a", checked := Try.checked }
namespace Rows
def none {H : Type} : Left H := { results := [], args := [] }

/-- 'aileronlaw10.SnapSteps': WHATEVER THE INPUT: true; the input reads as it did. -/
def snapStepsSpec : ChangeSpec := { name := "snapSteps", fn := fun _ => fun
  | [d1, d2, d3] => { results := [.lit (.bool true)], args := [d1, d2, d3] }
  | _ => none }
def snapStepsRow : OpenClaim := { program := "ytjdalllfnlpmnaa", sum := "66339a3da62bdea02bdc40e5819b8724b98c66a1ebbfd44e5b54f6f9f85bb24a", func := "aileron/aileronlaw10.SnapSteps", spec := "snapSteps", inPlace := ["sync/atomic.AddInt64", "sync/atomic.LoadUint64", "sync/atomic.StoreUint64"], unfollowed := true, recurses := true, apart := false }
def SnapStepsSaid : Prop := snapStepsRow.holds Try.pinned (OpenSpec.ofChange snapStepsSpec)

/-- ITS FALSE NEIGHBOUR: 'it returns false'. Refute it at one input. -/
def snapStepsWrong : ChangeSpec := { name := "snapSteps", fn := fun _ => fun
  | [d1, d2, d3] => { results := [.lit (.bool false)], args := [d1, d2, d3] }
  | _ => none }
def SnapStepsWrongFalsely : Prop := snapStepsRow.holds Try.pinned (OpenSpec.ofChange snapStepsWrong)

/-- 'aileronlaw10.SnapTwo': WHATEVER THE INPUT: true; the input reads as it did. -/
def snapTwoSpec : ChangeSpec := { name := "snapTwo", fn := fun _ => fun
  | [d1, d2] => { results := [.lit (.bool true)], args := [d1, d2] }
  | _ => none }
def snapTwoRow : OpenClaim := { program := "ytjdalllfnlpmnaa", sum := "66339a3da62bdea02bdc40e5819b8724b98c66a1ebbfd44e5b54f6f9f85bb24a", func := "aileron/aileronlaw10.SnapTwo", spec := "snapTwo", inPlace := ["sync/atomic.AddInt64", "sync/atomic.LoadUint64", "sync/atomic.CompareAndSwapUint64", "sync/atomic.StoreUint64"], unfollowed := true, recurses := true, apart := false }
def SnapTwoSaid : Prop := snapTwoRow.holds Try.pinned (OpenSpec.ofChange snapTwoSpec)

/-- ITS FALSE NEIGHBOUR: 'it returns false'. Refute it at one input. -/
def snapTwoWrong : ChangeSpec := { name := "snapTwo", fn := fun _ => fun
  | [d1, d2] => { results := [.lit (.bool false)], args := [d1, d2] }
  | _ => none }
def SnapTwoWrongFalsely : Prop := snapTwoRow.holds Try.pinned (OpenSpec.ofChange snapTwoWrong)

/-- 'aileronlaw10.SnapWhole': WHATEVER THE INPUT: true; the input reads as it did. -/
def snapWholeSpec : ChangeSpec := { name := "snapWhole", fn := fun _ => fun
  | [d1, d2, d3] => { results := [.lit (.bool true)], args := [d1, d2, d3] }
  | _ => none }
def snapWholeRow : OpenClaim := { program := "ytjdalllfnlpmnaa", sum := "66339a3da62bdea02bdc40e5819b8724b98c66a1ebbfd44e5b54f6f9f85bb24a", func := "aileron/aileronlaw10.SnapWhole", spec := "snapWhole", inPlace := ["sync/atomic.AddInt64", "sync/atomic.LoadUint64", "sync/atomic.CompareAndSwapUint64", "sync/atomic.StoreUint64"], unfollowed := true, recurses := true, apart := false }
def SnapWholeSaid : Prop := snapWholeRow.holds Try.pinned (OpenSpec.ofChange snapWholeSpec)

/-- ITS FALSE NEIGHBOUR: 'it returns false'. Refute it at one input. -/
def snapWholeWrong : ChangeSpec := { name := "snapWhole", fn := fun _ => fun
  | [d1, d2, d3] => { results := [.lit (.bool false)], args := [d1, d2, d3] }
  | _ => none }
def SnapWholeWrongFalsely : Prop := snapWholeRow.holds Try.pinned (OpenSpec.ofChange snapWholeWrong)

/-- 'aileronlaw10.SnapOwn': WHATEVER THE INPUT: true; the input reads as it did. -/
def snapOwnSpec : ChangeSpec := { name := "snapOwn", fn := fun _ => fun
  | [d] => { results := [.lit (.bool true)], args := [d] }
  | _ => none }
def snapOwnRow : OpenClaim := { program := "ytjdalllfnlpmnaa", sum := "66339a3da62bdea02bdc40e5819b8724b98c66a1ebbfd44e5b54f6f9f85bb24a", func := "aileron/aileronlaw10.SnapOwn", spec := "snapOwn", inPlace := ["sync/atomic.AddInt64", "sync/atomic.LoadUint64", "sync/atomic.CompareAndSwapUint64", "sync/atomic.StoreUint64", "sync/atomic.LoadInt64"], unfollowed := true, recurses := true, apart := false }
def SnapOwnSaid : Prop := snapOwnRow.holds Try.pinned (OpenSpec.ofChange snapOwnSpec)

/-- ITS FALSE NEIGHBOUR: 'it returns false'. Refute it at one input. -/
def snapOwnWrong : ChangeSpec := { name := "snapOwn", fn := fun _ => fun
  | [d] => { results := [.lit (.bool false)], args := [d] }
  | _ => none }
def SnapOwnWrongFalsely : Prop := snapOwnRow.holds Try.pinned (OpenSpec.ofChange snapOwnWrong)

/-- 'aileronlaw10.SnapAlone': WHATEVER THE INPUT: true; the input reads as it did. -/
def snapAloneSpec : ChangeSpec := { name := "snapAlone", fn := fun _ => fun
  | [d1, d2, d3] => { results := [.lit (.bool true)], args := [d1, d2, d3] }
  | _ => none }
def snapAloneRow : OpenClaim := { program := "ytjdalllfnlpmnaa", sum := "66339a3da62bdea02bdc40e5819b8724b98c66a1ebbfd44e5b54f6f9f85bb24a", func := "aileron/aileronlaw10.SnapAlone", spec := "snapAlone", inPlace := ["sync/atomic.AddInt64", "sync/atomic.LoadUint64", "sync/atomic.CompareAndSwapUint64", "sync/atomic.StoreUint64", "sync/atomic.LoadInt64", "sync/atomic.StoreInt64"], unfollowed := true, recurses := true, apart := false }
def SnapAloneSaid : Prop := snapAloneRow.holds Try.pinned (OpenSpec.ofChange snapAloneSpec)

/-- ITS FALSE NEIGHBOUR: 'it returns false'. Refute it at one input. -/
def snapAloneWrong : ChangeSpec := { name := "snapAlone", fn := fun _ => fun
  | [d1, d2, d3] => { results := [.lit (.bool false)], args := [d1, d2, d3] }
  | _ => none }
def SnapAloneWrongFalsely : Prop := snapAloneRow.holds Try.pinned (OpenSpec.ofChange snapAloneWrong)

/- THE SECOND FORM. 'bulk': how many values and letters a reading holds, each counted each time it is reached (what is shared counts as often as it is met; a slice's spare places count too). A statement '..UptoSaid' is the law's where the arguments, and the package variables that the reading takes, are together of bulk at most 1048576: NARROWER than '..Said'. Prove '..Said' where nothing that the law and all that it calls make is longer than what came in: it says more and counts as full. Else prove '..UptoSaid'. A law counts once. -/
mutual
def uptoBulk {H : Type} : DataW H → Nat
  | .lit (.string bytes) => bytes.length + 1
  | .lit _ => 1
  | .nil => 1
  | .ptr d => uptoBulk d + 1
  | .slice elems spare => uptoBulkAll elems + uptoBulkAll spare + 1
  | .agg parts => uptoBulkAll parts + 1
  | .iface _ d => uptoBulk d + 1
  | .map entries => uptoBulkEntries entries + 1
  | .held _ => 1
def uptoBulkAll {H : Type} : List (DataW H) → Nat
  | [] => 0
  | d :: r => uptoBulk d + uptoBulkAll r
def uptoBulkEntries {H : Type} : List (Lit × DataW H) → Nat
  | [] => 0
  | x :: r => uptoBulkEntry x + uptoBulkEntries r
def uptoBulkEntry {H : Type} : Lit × DataW H → Nat
  | (.string bytes, d) => bytes.length + uptoBulk d + 1
  | (_, d) => uptoBulk d + 1
 end
def uptoSmall : (H : Type) → List (DataW H) → Bool := fun _ ds => decide (uptoBulkAll ds ≤ 1048576)
def OpenSpec.upto (s : _root_.Go.ChangeSpec) : _root_.Go.OpenSpec := { _root_.Go.OpenSpec.ofChange s with cond := some uptoSmall }

/-- 'aileronlaw10.SnapSteps', WHERE WHAT IT READS IS OF BULK AT MOST 1048576: true; the input reads as it did. -/
def snapStepsUptoRow : OpenClaim := { program := "ytjdalllfnlpmnaa", sum := "66339a3da62bdea02bdc40e5819b8724b98c66a1ebbfd44e5b54f6f9f85bb24a", func := "aileron/aileronlaw10.SnapSteps", spec := "snapSteps", inPlace := ["sync/atomic.AddInt64", "sync/atomic.LoadUint64", "sync/atomic.StoreUint64"], unfollowed := true, recurses := true, apart := false, narrowed := true }
def SnapStepsUptoSaid : Prop := snapStepsUptoRow.holds Try.pinned (OpenSpec.upto snapStepsSpec)

/-- 'aileronlaw10.SnapTwo', WHERE WHAT IT READS IS OF BULK AT MOST 1048576: true; the input reads as it did. -/
def snapTwoUptoRow : OpenClaim := { program := "ytjdalllfnlpmnaa", sum := "66339a3da62bdea02bdc40e5819b8724b98c66a1ebbfd44e5b54f6f9f85bb24a", func := "aileron/aileronlaw10.SnapTwo", spec := "snapTwo", inPlace := ["sync/atomic.AddInt64", "sync/atomic.LoadUint64", "sync/atomic.CompareAndSwapUint64", "sync/atomic.StoreUint64"], unfollowed := true, recurses := true, apart := false, narrowed := true }
def SnapTwoUptoSaid : Prop := snapTwoUptoRow.holds Try.pinned (OpenSpec.upto snapTwoSpec)

/-- 'aileronlaw10.SnapWhole', WHERE WHAT IT READS IS OF BULK AT MOST 1048576: true; the input reads as it did. -/
def snapWholeUptoRow : OpenClaim := { program := "ytjdalllfnlpmnaa", sum := "66339a3da62bdea02bdc40e5819b8724b98c66a1ebbfd44e5b54f6f9f85bb24a", func := "aileron/aileronlaw10.SnapWhole", spec := "snapWhole", inPlace := ["sync/atomic.AddInt64", "sync/atomic.LoadUint64", "sync/atomic.CompareAndSwapUint64", "sync/atomic.StoreUint64"], unfollowed := true, recurses := true, apart := false, narrowed := true }
def SnapWholeUptoSaid : Prop := snapWholeUptoRow.holds Try.pinned (OpenSpec.upto snapWholeSpec)

/-- 'aileronlaw10.SnapOwn', WHERE WHAT IT READS IS OF BULK AT MOST 1048576: true; the input reads as it did. -/
def snapOwnUptoRow : OpenClaim := { program := "ytjdalllfnlpmnaa", sum := "66339a3da62bdea02bdc40e5819b8724b98c66a1ebbfd44e5b54f6f9f85bb24a", func := "aileron/aileronlaw10.SnapOwn", spec := "snapOwn", inPlace := ["sync/atomic.AddInt64", "sync/atomic.LoadUint64", "sync/atomic.CompareAndSwapUint64", "sync/atomic.StoreUint64", "sync/atomic.LoadInt64"], unfollowed := true, recurses := true, apart := false, narrowed := true }
def SnapOwnUptoSaid : Prop := snapOwnUptoRow.holds Try.pinned (OpenSpec.upto snapOwnSpec)

/-- 'aileronlaw10.SnapAlone', WHERE WHAT IT READS IS OF BULK AT MOST 1048576: true; the input reads as it did. -/
def snapAloneUptoRow : OpenClaim := { program := "ytjdalllfnlpmnaa", sum := "66339a3da62bdea02bdc40e5819b8724b98c66a1ebbfd44e5b54f6f9f85bb24a", func := "aileron/aileronlaw10.SnapAlone", spec := "snapAlone", inPlace := ["sync/atomic.AddInt64", "sync/atomic.LoadUint64", "sync/atomic.CompareAndSwapUint64", "sync/atomic.StoreUint64", "sync/atomic.LoadInt64", "sync/atomic.StoreInt64"], unfollowed := true, recurses := true, apart := false, narrowed := true }
def SnapAloneUptoSaid : Prop := snapAloneUptoRow.holds Try.pinned (OpenSpec.upto snapAloneSpec)

end Rows
end Go.Proofs.Ytjdalllfnlpmnaa
