/-
  No cell of these rows narrows 'for every input' (looked for: loops, veiled, ifaces, maps, wideKeys, modest, calm, conditions, laid).
  DERIVED. THE GIVEN ROWS OF THIS SEAT. 6 by the template 'for every input the law returns true; each argument reads behind the call as it read before'; 0 by the template 'total and deterministic' (their statements: YthfkgbgbhjnpdaaTotals.lean).
  GIVEN WITH THE SEED: the statements are not yours to turn. If you find one false, say at which input.
  Laid BY PROGRAM, IN A SANDBOX (cutbox-rows.mjs): the forced cells as the released guide's own fill.sh prints them over the translation 67e7377339c02156… (all of the seat's roots in one cut). By AI agents, Wed Nov 11 2026. No macro, syntax, notation, axiom, sorry.
-/
import Derived.Test.YthfkgbgbhjnpdaaChecked
import GoSem.Claim
import GoSem.ClaimJoined
import GoSem.ClaimMapViews
import Derived.JoinedTies
import Derived.KernelRfl
namespace Go.Proofs.Ythfkgbgbhjnpdaa
/- THE CELL 'sum', in the pinned program and in every row, IS THE sha256 OF THE DUMP (.gsa) THAT YthfkgbgbhjnpdaaProg.lean LOADS. Nothing in Lean hashes anything: it is a label: what it is worth is what the hold of that sum in a sandbox is worth. -/
noncomputable def Try.pinned : Pinned := { name := "ythfkgbgbhjnpdaa", sum := "67e7377339c02156fd29fd3ffcc7f67729818116c0a05bba20228ba9eaa53127", checked := Try.checked }
namespace Rows
def none {H : Type} : Left H := { results := [], args := [] }

/-- 'aileronlaw11.QueueActs': WHATEVER THE INPUT: true; the input reads as it did. -/
def queueActsSpec : ChangeSpec := { name := "queueActs", fn := fun _ => fun
  | [d1, d2, d3] => { results := [.lit (.bool true)], args := [d1, d2, d3] }
  | _ => none }
def queueActsRow : OpenClaim := { program := "ythfkgbgbhjnpdaa", sum := "67e7377339c02156fd29fd3ffcc7f67729818116c0a05bba20228ba9eaa53127", func := "aileron/aileronlaw11.QueueActs", spec := "queueActs", apart := false }
def QueueActsSaid : Prop := queueActsRow.holds Try.pinned (OpenSpec.ofChange queueActsSpec)

/-- ITS FALSE NEIGHBOUR: 'it returns false'. Refute it at one input. -/
def queueActsWrong : ChangeSpec := { name := "queueActs", fn := fun _ => fun
  | [d1, d2, d3] => { results := [.lit (.bool false)], args := [d1, d2, d3] }
  | _ => none }
def QueueActsWrongFalsely : Prop := queueActsRow.holds Try.pinned (OpenSpec.ofChange queueActsWrong)

/-- 'aileronlaw11.QueueSums': WHATEVER THE INPUT: true; the input reads as it did. -/
def queueSumsSpec : ChangeSpec := { name := "queueSums", fn := fun _ => fun
  | [d1, d2, d3] => { results := [.lit (.bool true)], args := [d1, d2, d3] }
  | _ => none }
def queueSumsRow : OpenClaim := { program := "ythfkgbgbhjnpdaa", sum := "67e7377339c02156fd29fd3ffcc7f67729818116c0a05bba20228ba9eaa53127", func := "aileron/aileronlaw11.QueueSums", spec := "queueSums", apart := false }
def QueueSumsSaid : Prop := queueSumsRow.holds Try.pinned (OpenSpec.ofChange queueSumsSpec)

/-- ITS FALSE NEIGHBOUR: 'it returns false'. Refute it at one input. -/
def queueSumsWrong : ChangeSpec := { name := "queueSums", fn := fun _ => fun
  | [d1, d2, d3] => { results := [.lit (.bool false)], args := [d1, d2, d3] }
  | _ => none }
def QueueSumsWrongFalsely : Prop := queueSumsRow.holds Try.pinned (OpenSpec.ofChange queueSumsWrong)

/-- 'aileronlaw11.QueueLazy': WHATEVER THE INPUT: true; the input reads as it did. -/
def queueLazySpec : ChangeSpec := { name := "queueLazy", fn := fun _ => fun
  | [d1, d2, d3] => { results := [.lit (.bool true)], args := [d1, d2, d3] }
  | _ => none }
def queueLazyRow : OpenClaim := { program := "ythfkgbgbhjnpdaa", sum := "67e7377339c02156fd29fd3ffcc7f67729818116c0a05bba20228ba9eaa53127", func := "aileron/aileronlaw11.QueueLazy", spec := "queueLazy", apart := false }
def QueueLazySaid : Prop := queueLazyRow.holds Try.pinned (OpenSpec.ofChange queueLazySpec)

/-- ITS FALSE NEIGHBOUR: 'it returns false'. Refute it at one input. -/
def queueLazyWrong : ChangeSpec := { name := "queueLazy", fn := fun _ => fun
  | [d1, d2, d3] => { results := [.lit (.bool false)], args := [d1, d2, d3] }
  | _ => none }
def QueueLazyWrongFalsely : Prop := queueLazyRow.holds Try.pinned (OpenSpec.ofChange queueLazyWrong)

/-- 'aileronlaw11.QueueCursors': WHATEVER THE INPUT: true; the input reads as it did. -/
def queueCursorsSpec : ChangeSpec := { name := "queueCursors", fn := fun _ => fun
  | [d1, d2, d3] => { results := [.lit (.bool true)], args := [d1, d2, d3] }
  | _ => none }
def queueCursorsRow : OpenClaim := { program := "ythfkgbgbhjnpdaa", sum := "67e7377339c02156fd29fd3ffcc7f67729818116c0a05bba20228ba9eaa53127", func := "aileron/aileronlaw11.QueueCursors", spec := "queueCursors", apart := false }
def QueueCursorsSaid : Prop := queueCursorsRow.holds Try.pinned (OpenSpec.ofChange queueCursorsSpec)

/-- ITS FALSE NEIGHBOUR: 'it returns false'. Refute it at one input. -/
def queueCursorsWrong : ChangeSpec := { name := "queueCursors", fn := fun _ => fun
  | [d1, d2, d3] => { results := [.lit (.bool false)], args := [d1, d2, d3] }
  | _ => none }
def QueueCursorsWrongFalsely : Prop := queueCursorsRow.holds Try.pinned (OpenSpec.ofChange queueCursorsWrong)

/-- 'aileronlaw11.QueuePicks': WHATEVER THE INPUT: true; the input reads as it did. -/
def queuePicksSpec : ChangeSpec := { name := "queuePicks", fn := fun _ => fun
  | [d1, d2] => { results := [.lit (.bool true)], args := [d1, d2] }
  | _ => none }
def queuePicksRow : OpenClaim := { program := "ythfkgbgbhjnpdaa", sum := "67e7377339c02156fd29fd3ffcc7f67729818116c0a05bba20228ba9eaa53127", func := "aileron/aileronlaw11.QueuePicks", spec := "queuePicks", apart := false }
def QueuePicksSaid : Prop := queuePicksRow.holds Try.pinned (OpenSpec.ofChange queuePicksSpec)

/-- ITS FALSE NEIGHBOUR: 'it returns false'. Refute it at one input. -/
def queuePicksWrong : ChangeSpec := { name := "queuePicks", fn := fun _ => fun
  | [d1, d2] => { results := [.lit (.bool false)], args := [d1, d2] }
  | _ => none }
def QueuePicksWrongFalsely : Prop := queuePicksRow.holds Try.pinned (OpenSpec.ofChange queuePicksWrong)

/-- 'aileronlaw11.QueueRanks': WHATEVER THE INPUT: true; the input reads as it did. -/
def queueRanksSpec : ChangeSpec := { name := "queueRanks", fn := fun _ => fun
  | [d1, d2] => { results := [.lit (.bool true)], args := [d1, d2] }
  | _ => none }
def queueRanksRow : OpenClaim := { program := "ythfkgbgbhjnpdaa", sum := "67e7377339c02156fd29fd3ffcc7f67729818116c0a05bba20228ba9eaa53127", func := "aileron/aileronlaw11.QueueRanks", spec := "queueRanks", apart := false }
def QueueRanksSaid : Prop := queueRanksRow.holds Try.pinned (OpenSpec.ofChange queueRanksSpec)

/-- ITS FALSE NEIGHBOUR: 'it returns false'. Refute it at one input. -/
def queueRanksWrong : ChangeSpec := { name := "queueRanks", fn := fun _ => fun
  | [d1, d2] => { results := [.lit (.bool false)], args := [d1, d2] }
  | _ => none }
def QueueRanksWrongFalsely : Prop := queueRanksRow.holds Try.pinned (OpenSpec.ofChange queueRanksWrong)

/- THE SECOND FORM. 'bulk': how many values and letters a reading holds, each counted each time it is reached (what is shared counts as often as it is met; a slice's spare places count too). A statement '..UptoSaid' is the law's where the arguments, and the package variables that the reading takes, are together of bulk at most 1048576: NARROWER than '..Said'. Prove '..Said' where nothing that the law and all that it calls make is longer than what came in: it says more and counts as full. Else prove '..UptoSaid'. A law counts once. -/
mutual
def uptoBulk {H : Type} : DataW H → Nat
  | .lit (.string bytes) => bytes.length + 1
  | .lit _ => 1
  | .nil => 1
  | .ptr d => uptoBulk d + 1
  | .slice elems spare => uptoBulkAll elems + uptoBulkAll spare + 1
  | .agg parts => uptoBulkAll parts + 1
  | .iface _ d => uptoBulk d + 1
  | .map entries => uptoBulkEntries entries + 1
  | .held _ => 1
def uptoBulkAll {H : Type} : List (DataW H) → Nat
  | [] => 0
  | d :: r => uptoBulk d + uptoBulkAll r
def uptoBulkEntries {H : Type} : List (Lit × DataW H) → Nat
  | [] => 0
  | x :: r => uptoBulkEntry x + uptoBulkEntries r
def uptoBulkEntry {H : Type} : Lit × DataW H → Nat
  | (.string bytes, d) => bytes.length + uptoBulk d + 1
  | (_, d) => uptoBulk d + 1
 end
def uptoSmall : (H : Type) → List (DataW H) → Bool := fun _ ds => decide (uptoBulkAll ds ≤ 1048576)
def OpenSpec.upto (s : _root_.Go.ChangeSpec) : _root_.Go.OpenSpec := { _root_.Go.OpenSpec.ofChange s with cond := some uptoSmall }

/-- 'aileronlaw11.QueueActs', WHERE WHAT IT READS IS OF BULK AT MOST 1048576: true; the input reads as it did. -/
def queueActsUptoRow : OpenClaim := { program := "ythfkgbgbhjnpdaa", sum := "67e7377339c02156fd29fd3ffcc7f67729818116c0a05bba20228ba9eaa53127", func := "aileron/aileronlaw11.QueueActs", spec := "queueActs", apart := false, narrowed := true }
def QueueActsUptoSaid : Prop := queueActsUptoRow.holds Try.pinned (OpenSpec.upto queueActsSpec)

/-- 'aileronlaw11.QueueSums', WHERE WHAT IT READS IS OF BULK AT MOST 1048576: true; the input reads as it did. -/
def queueSumsUptoRow : OpenClaim := { program := "ythfkgbgbhjnpdaa", sum := "67e7377339c02156fd29fd3ffcc7f67729818116c0a05bba20228ba9eaa53127", func := "aileron/aileronlaw11.QueueSums", spec := "queueSums", apart := false, narrowed := true }
def QueueSumsUptoSaid : Prop := queueSumsUptoRow.holds Try.pinned (OpenSpec.upto queueSumsSpec)

/-- 'aileronlaw11.QueueLazy', WHERE WHAT IT READS IS OF BULK AT MOST 1048576: true; the input reads as it did. -/
def queueLazyUptoRow : OpenClaim := { program := "ythfkgbgbhjnpdaa", sum := "67e7377339c02156fd29fd3ffcc7f67729818116c0a05bba20228ba9eaa53127", func := "aileron/aileronlaw11.QueueLazy", spec := "queueLazy", apart := false, narrowed := true }
def QueueLazyUptoSaid : Prop := queueLazyUptoRow.holds Try.pinned (OpenSpec.upto queueLazySpec)

/-- 'aileronlaw11.QueueCursors', WHERE WHAT IT READS IS OF BULK AT MOST 1048576: true; the input reads as it did. -/
def queueCursorsUptoRow : OpenClaim := { program := "ythfkgbgbhjnpdaa", sum := "67e7377339c02156fd29fd3ffcc7f67729818116c0a05bba20228ba9eaa53127", func := "aileron/aileronlaw11.QueueCursors", spec := "queueCursors", apart := false, narrowed := true }
def QueueCursorsUptoSaid : Prop := queueCursorsUptoRow.holds Try.pinned (OpenSpec.upto queueCursorsSpec)

/-- 'aileronlaw11.QueuePicks', WHERE WHAT IT READS IS OF BULK AT MOST 1048576: true; the input reads as it did. -/
def queuePicksUptoRow : OpenClaim := { program := "ythfkgbgbhjnpdaa", sum := "67e7377339c02156fd29fd3ffcc7f67729818116c0a05bba20228ba9eaa53127", func := "aileron/aileronlaw11.QueuePicks", spec := "queuePicks", apart := false, narrowed := true }
def QueuePicksUptoSaid : Prop := queuePicksUptoRow.holds Try.pinned (OpenSpec.upto queuePicksSpec)

/-- 'aileronlaw11.QueueRanks', WHERE WHAT IT READS IS OF BULK AT MOST 1048576: true; the input reads as it did. -/
def queueRanksUptoRow : OpenClaim := { program := "ythfkgbgbhjnpdaa", sum := "67e7377339c02156fd29fd3ffcc7f67729818116c0a05bba20228ba9eaa53127", func := "aileron/aileronlaw11.QueueRanks", spec := "queueRanks", apart := false, narrowed := true }
def QueueRanksUptoSaid : Prop := queueRanksUptoRow.holds Try.pinned (OpenSpec.upto queueRanksSpec)

end Rows
end Go.Proofs.Ythfkgbgbhjnpdaa
