/-
  NARROWER THAN 'FOR EVERY INPUT', by the rows' own cells (each row's printed sentence says how): RegPacks: laid · RegBacks: laid · RegDecides: laid · RegHolds: laid · RegFollows: laid · RegRuns: laid.
  DERIVED. THE GIVEN ROWS OF THIS SEAT. 6 by the template 'for every input the law returns true; each argument reads behind the call as it read before'; 0 by the template 'total and deterministic' (their statements: YtjnhmoafljfnkaaDoorTotals.lean).
  GIVEN WITH THE SEED: the statements are not yours to turn. If you find one false, say at which input.
  Laid BY PROGRAM, IN A SANDBOX (cutbox-rows.mjs): the forced cells as the released guide's own fill.sh prints them over the translation 903b41d5934bb82c… (all of the seat's roots in one cut). By AI agents, Wed Nov 11 2026. No macro, syntax, notation, axiom, sorry.
-/
import Derived.Test.YtjnhmoafljfnkaaDoorChecked
import GoSem.Claim
import GoSem.ClaimJoined
import GoSem.ClaimMapViews
import Derived.JoinedTies
import Derived.KernelRfl
namespace Go.Proofs.YtjnhmoafljfnkaaDoor
/- THE CELL 'sum', in the pinned program and in every row, IS THE sha256 OF THE DUMP (.gsa) THAT YtjnhmoafljfnkaaDoorProg.lean LOADS. Nothing in Lean hashes anything: it is a label: what it is worth is what the hold of that sum in a sandbox is worth. -/
noncomputable def Tryd.pinned : Pinned := { name := "ytjnhmoafljfnkaadoor", sum := "903b41d5934bb82c2ba63a41a3348c04f6a7ccc5b9c33fe4f05db6a135a709c7", checked := Tryd.checked }
namespace Rows
def none {H : Type} : Left H := { results := [], args := [] }

/- WHAT THE LISTED PACKAGE-LEVEL VARIABLES READ AS WHEN THE CALL BEGINS. Each datum BY PROGRAM (the guide's laid-datum.mjs) off the statement by which the dump's own 'gosem.cut.vars' lays the variable. In a bare row this is a premise. The card (YtjnhmoafljfnkaaDoorCards.lean) ties it to the program's text. -/
def laid_aileron_modes_ways {H : Type} : DataW H := .agg [.agg [.lit (.int .i64 0), .lit (.int .i64 4432), .lit (.int .i64 0), .lit (.int .i64 0), .lit (.int .i64 0), .lit (.int .i64 0), .lit (.int .i64 0), .lit (.int .i64 0)], .agg [.lit (.int .i64 4112), .lit (.int .i64 0), .lit (.int .i64 4944), .lit (.int .i64 0), .lit (.int .i64 0), .lit (.int .i64 0), .lit (.int .i64 0), .lit (.int .i64 4096)], .agg [.lit (.int .i64 0), .lit (.int .i64 0), .lit (.int .i64 0), .lit (.int .i64 5184), .lit (.int .i64 0), .lit (.int .i64 0), .lit (.int .i64 4096), .lit (.int .i64 4096)], .agg [.lit (.int .i64 0), .lit (.int .i64 0), .lit (.int .i64 0), .lit (.int .i64 0), .lit (.int .i64 5568), .lit (.int .i64 5248), .lit (.int .i64 6144), .lit (.int .i64 4096)], .agg [.lit (.int .i64 0), .lit (.int .i64 0), .lit (.int .i64 0), .lit (.int .i64 5184), .lit (.int .i64 0), .lit (.int .i64 5248), .lit (.int .i64 6144), .lit (.int .i64 4096)], .agg [.lit (.int .i64 0), .lit (.int .i64 0), .lit (.int .i64 0), .lit (.int .i64 5568), .lit (.int .i64 0), .lit (.int .i64 0), .lit (.int .i64 6144), .lit (.int .i64 4096)], .agg [.lit (.int .i64 4112), .lit (.int .i64 0), .lit (.int .i64 0), .lit (.int .i64 5472), .lit (.int .i64 0), .lit (.int .i64 0), .lit (.int .i64 0), .lit (.int .i64 4096)], .agg [.lit (.int .i64 4112), .lit (.int .i64 0), .lit (.int .i64 0), .lit (.int .i64 6080), .lit (.int .i64 0), .lit (.int .i64 0), .lit (.int .i64 4096), .lit (.int .i64 0)]]

/-- 'aileronlaw14.RegPacks': WHATEVER THE INPUT: true; the input reads as it did. -/
def regPacksSpec : ChangeSpec := { name := "regPacks", fn := fun _ => fun
  | [d1, d2] => { results := [.lit (.bool true)], args := [d1, d2] }
  | _ => none }
def regPacksRow : OpenClaim := { program := "ytjnhmoafljfnkaadoor", sum := "903b41d5934bb82c2ba63a41a3348c04f6a7ccc5b9c33fe4f05db6a135a709c7", func := "aileron/aileronlaw14.RegPacks", spec := "regPacks", unfollowed := true, recurses := true, named := ["aileron/modes.ways"], apart := false, laid := [("aileron/modes.ways", laid_aileron_modes_ways)] }
def RegPacksSaid : Prop := regPacksRow.holds Tryd.pinned (OpenSpec.ofChange regPacksSpec)

/-- ITS FALSE NEIGHBOUR: 'it returns false'. Refute it at one input. -/
def regPacksWrong : ChangeSpec := { name := "regPacks", fn := fun _ => fun
  | [d1, d2] => { results := [.lit (.bool false)], args := [d1, d2] }
  | _ => none }
def RegPacksWrongFalsely : Prop := regPacksRow.holds Tryd.pinned (OpenSpec.ofChange regPacksWrong)

/-- 'aileronlaw14.RegBacks': WHATEVER THE INPUT: true; the input reads as it did. -/
def regBacksSpec : ChangeSpec := { name := "regBacks", fn := fun _ => fun
  | [d1, d2, d3] => { results := [.lit (.bool true)], args := [d1, d2, d3] }
  | _ => none }
def regBacksRow : OpenClaim := { program := "ytjnhmoafljfnkaadoor", sum := "903b41d5934bb82c2ba63a41a3348c04f6a7ccc5b9c33fe4f05db6a135a709c7", func := "aileron/aileronlaw14.RegBacks", spec := "regBacks", unfollowed := true, recurses := true, named := ["aileron/modes.ways"], apart := false, laid := [("aileron/modes.ways", laid_aileron_modes_ways)] }
def RegBacksSaid : Prop := regBacksRow.holds Tryd.pinned (OpenSpec.ofChange regBacksSpec)

/-- ITS FALSE NEIGHBOUR: 'it returns false'. Refute it at one input. -/
def regBacksWrong : ChangeSpec := { name := "regBacks", fn := fun _ => fun
  | [d1, d2, d3] => { results := [.lit (.bool false)], args := [d1, d2, d3] }
  | _ => none }
def RegBacksWrongFalsely : Prop := regBacksRow.holds Tryd.pinned (OpenSpec.ofChange regBacksWrong)

/-- 'aileronlaw14.RegDecides': WHATEVER THE INPUT: true; the input reads as it did. -/
def regDecidesSpec : ChangeSpec := { name := "regDecides", fn := fun _ => fun
  | [d1, d2] => { results := [.lit (.bool true)], args := [d1, d2] }
  | _ => none }
def regDecidesRow : OpenClaim := { program := "ytjnhmoafljfnkaadoor", sum := "903b41d5934bb82c2ba63a41a3348c04f6a7ccc5b9c33fe4f05db6a135a709c7", func := "aileron/aileronlaw14.RegDecides", spec := "regDecides", unfollowed := true, recurses := true, named := ["aileron/modes.ways"], apart := false, laid := [("aileron/modes.ways", laid_aileron_modes_ways)] }
def RegDecidesSaid : Prop := regDecidesRow.holds Tryd.pinned (OpenSpec.ofChange regDecidesSpec)

/-- ITS FALSE NEIGHBOUR: 'it returns false'. Refute it at one input. -/
def regDecidesWrong : ChangeSpec := { name := "regDecides", fn := fun _ => fun
  | [d1, d2] => { results := [.lit (.bool false)], args := [d1, d2] }
  | _ => none }
def RegDecidesWrongFalsely : Prop := regDecidesRow.holds Tryd.pinned (OpenSpec.ofChange regDecidesWrong)

/-- 'aileronlaw14.RegHolds': WHATEVER THE INPUT: true; the input reads as it did. -/
def regHoldsSpec : ChangeSpec := { name := "regHolds", fn := fun _ => fun
  | [d] => { results := [.lit (.bool true)], args := [d] }
  | _ => none }
def regHoldsRow : OpenClaim := { program := "ytjnhmoafljfnkaadoor", sum := "903b41d5934bb82c2ba63a41a3348c04f6a7ccc5b9c33fe4f05db6a135a709c7", func := "aileron/aileronlaw14.RegHolds", spec := "regHolds", unfollowed := true, recurses := true, named := ["aileron/modes.ways"], apart := false, laid := [("aileron/modes.ways", laid_aileron_modes_ways)] }
def RegHoldsSaid : Prop := regHoldsRow.holds Tryd.pinned (OpenSpec.ofChange regHoldsSpec)

/-- ITS FALSE NEIGHBOUR: 'it returns false'. Refute it at one input. -/
def regHoldsWrong : ChangeSpec := { name := "regHolds", fn := fun _ => fun
  | [d] => { results := [.lit (.bool false)], args := [d] }
  | _ => none }
def RegHoldsWrongFalsely : Prop := regHoldsRow.holds Tryd.pinned (OpenSpec.ofChange regHoldsWrong)

/-- 'aileronlaw14.RegFollows': WHATEVER THE INPUT: true; the input reads as it did. -/
def regFollowsSpec : ChangeSpec := { name := "regFollows", fn := fun _ => fun
  | [d1, d2] => { results := [.lit (.bool true)], args := [d1, d2] }
  | _ => none }
def regFollowsRow : OpenClaim := { program := "ytjnhmoafljfnkaadoor", sum := "903b41d5934bb82c2ba63a41a3348c04f6a7ccc5b9c33fe4f05db6a135a709c7", func := "aileron/aileronlaw14.RegFollows", spec := "regFollows", unfollowed := true, recurses := true, named := ["aileron/modes.ways"], apart := false, laid := [("aileron/modes.ways", laid_aileron_modes_ways)] }
def RegFollowsSaid : Prop := regFollowsRow.holds Tryd.pinned (OpenSpec.ofChange regFollowsSpec)

/-- ITS FALSE NEIGHBOUR: 'it returns false'. Refute it at one input. -/
def regFollowsWrong : ChangeSpec := { name := "regFollows", fn := fun _ => fun
  | [d1, d2] => { results := [.lit (.bool false)], args := [d1, d2] }
  | _ => none }
def RegFollowsWrongFalsely : Prop := regFollowsRow.holds Tryd.pinned (OpenSpec.ofChange regFollowsWrong)

/-- 'aileronlaw14.RegRuns': WHATEVER THE INPUT: true; the input reads as it did. -/
def regRunsSpec : ChangeSpec := { name := "regRuns", fn := fun _ => fun
  | [d] => { results := [.lit (.bool true)], args := [d] }
  | _ => none }
def regRunsRow : OpenClaim := { program := "ytjnhmoafljfnkaadoor", sum := "903b41d5934bb82c2ba63a41a3348c04f6a7ccc5b9c33fe4f05db6a135a709c7", func := "aileron/aileronlaw14.RegRuns", spec := "regRuns", unfollowed := true, recurses := true, named := ["aileron/modes.ways"], apart := false, laid := [("aileron/modes.ways", laid_aileron_modes_ways)] }
def RegRunsSaid : Prop := regRunsRow.holds Tryd.pinned (OpenSpec.ofChange regRunsSpec)

/-- ITS FALSE NEIGHBOUR: 'it returns false'. Refute it at one input. -/
def regRunsWrong : ChangeSpec := { name := "regRuns", fn := fun _ => fun
  | [d] => { results := [.lit (.bool false)], args := [d] }
  | _ => none }
def RegRunsWrongFalsely : Prop := regRunsRow.holds Tryd.pinned (OpenSpec.ofChange regRunsWrong)

/- THE SECOND FORM. 'bulk': how many values and letters a reading holds, each counted each time it is reached (what is shared counts as often as it is met; a slice's spare places count too). A statement '..UptoSaid' is the law's where the arguments, and the package variables that the reading takes, are together of bulk at most 1048576: NARROWER than '..Said'. Prove '..Said' where nothing that the law and all that it calls make is longer than what came in: it says more and counts as full. Else prove '..UptoSaid'. A law counts once. -/
mutual
def uptoBulk {H : Type} : DataW H → Nat
  | .lit (.string bytes) => bytes.length + 1
  | .lit _ => 1
  | .nil => 1
  | .ptr d => uptoBulk d + 1
  | .slice elems spare => uptoBulkAll elems + uptoBulkAll spare + 1
  | .agg parts => uptoBulkAll parts + 1
  | .iface _ d => uptoBulk d + 1
  | .map entries => uptoBulkEntries entries + 1
  | .held _ => 1
def uptoBulkAll {H : Type} : List (DataW H) → Nat
  | [] => 0
  | d :: r => uptoBulk d + uptoBulkAll r
def uptoBulkEntries {H : Type} : List (Lit × DataW H) → Nat
  | [] => 0
  | x :: r => uptoBulkEntry x + uptoBulkEntries r
def uptoBulkEntry {H : Type} : Lit × DataW H → Nat
  | (.string bytes, d) => bytes.length + uptoBulk d + 1
  | (_, d) => uptoBulk d + 1
 end
def uptoSmall : (H : Type) → List (DataW H) → Bool := fun _ ds => decide (uptoBulkAll ds ≤ 1048576)
def OpenSpec.upto (s : _root_.Go.ChangeSpec) : _root_.Go.OpenSpec := { _root_.Go.OpenSpec.ofChange s with cond := some uptoSmall }

/-- 'aileronlaw14.RegPacks', WHERE WHAT IT READS IS OF BULK AT MOST 1048576: true; the input reads as it did. -/
def regPacksUptoRow : OpenClaim := { program := "ytjnhmoafljfnkaadoor", sum := "903b41d5934bb82c2ba63a41a3348c04f6a7ccc5b9c33fe4f05db6a135a709c7", func := "aileron/aileronlaw14.RegPacks", spec := "regPacks", unfollowed := true, recurses := true, named := ["aileron/modes.ways"], apart := false, laid := [("aileron/modes.ways", laid_aileron_modes_ways)], narrowed := true }
def RegPacksUptoSaid : Prop := regPacksUptoRow.holds Tryd.pinned (OpenSpec.upto regPacksSpec)

/-- 'aileronlaw14.RegBacks', WHERE WHAT IT READS IS OF BULK AT MOST 1048576: true; the input reads as it did. -/
def regBacksUptoRow : OpenClaim := { program := "ytjnhmoafljfnkaadoor", sum := "903b41d5934bb82c2ba63a41a3348c04f6a7ccc5b9c33fe4f05db6a135a709c7", func := "aileron/aileronlaw14.RegBacks", spec := "regBacks", unfollowed := true, recurses := true, named := ["aileron/modes.ways"], apart := false, laid := [("aileron/modes.ways", laid_aileron_modes_ways)], narrowed := true }
def RegBacksUptoSaid : Prop := regBacksUptoRow.holds Tryd.pinned (OpenSpec.upto regBacksSpec)

/-- 'aileronlaw14.RegDecides', WHERE WHAT IT READS IS OF BULK AT MOST 1048576: true; the input reads as it did. -/
def regDecidesUptoRow : OpenClaim := { program := "ytjnhmoafljfnkaadoor", sum := "903b41d5934bb82c2ba63a41a3348c04f6a7ccc5b9c33fe4f05db6a135a709c7", func := "aileron/aileronlaw14.RegDecides", spec := "regDecides", unfollowed := true, recurses := true, named := ["aileron/modes.ways"], apart := false, laid := [("aileron/modes.ways", laid_aileron_modes_ways)], narrowed := true }
def RegDecidesUptoSaid : Prop := regDecidesUptoRow.holds Tryd.pinned (OpenSpec.upto regDecidesSpec)

/-- 'aileronlaw14.RegHolds', WHERE WHAT IT READS IS OF BULK AT MOST 1048576: true; the input reads as it did. -/
def regHoldsUptoRow : OpenClaim := { program := "ytjnhmoafljfnkaadoor", sum := "903b41d5934bb82c2ba63a41a3348c04f6a7ccc5b9c33fe4f05db6a135a709c7", func := "aileron/aileronlaw14.RegHolds", spec := "regHolds", unfollowed := true, recurses := true, named := ["aileron/modes.ways"], apart := false, laid := [("aileron/modes.ways", laid_aileron_modes_ways)], narrowed := true }
def RegHoldsUptoSaid : Prop := regHoldsUptoRow.holds Tryd.pinned (OpenSpec.upto regHoldsSpec)

/-- 'aileronlaw14.RegFollows', WHERE WHAT IT READS IS OF BULK AT MOST 1048576: true; the input reads as it did. -/
def regFollowsUptoRow : OpenClaim := { program := "ytjnhmoafljfnkaadoor", sum := "903b41d5934bb82c2ba63a41a3348c04f6a7ccc5b9c33fe4f05db6a135a709c7", func := "aileron/aileronlaw14.RegFollows", spec := "regFollows", unfollowed := true, recurses := true, named := ["aileron/modes.ways"], apart := false, laid := [("aileron/modes.ways", laid_aileron_modes_ways)], narrowed := true }
def RegFollowsUptoSaid : Prop := regFollowsUptoRow.holds Tryd.pinned (OpenSpec.upto regFollowsSpec)

/-- 'aileronlaw14.RegRuns', WHERE WHAT IT READS IS OF BULK AT MOST 1048576: true; the input reads as it did. -/
def regRunsUptoRow : OpenClaim := { program := "ytjnhmoafljfnkaadoor", sum := "903b41d5934bb82c2ba63a41a3348c04f6a7ccc5b9c33fe4f05db6a135a709c7", func := "aileron/aileronlaw14.RegRuns", spec := "regRuns", unfollowed := true, recurses := true, named := ["aileron/modes.ways"], apart := false, laid := [("aileron/modes.ways", laid_aileron_modes_ways)], narrowed := true }
def RegRunsUptoSaid : Prop := regRunsUptoRow.holds Tryd.pinned (OpenSpec.upto regRunsSpec)

end Rows
end Go.Proofs.YtjnhmoafljfnkaaDoor
