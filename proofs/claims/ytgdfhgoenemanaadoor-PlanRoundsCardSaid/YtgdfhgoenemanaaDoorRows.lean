/-
  NARROWER THAN 'FOR EVERY INPUT', by the rows' own cells (each row's printed sentence says how): PlanOf: laid · PlanAt: laid · PlanRounds: laid · PlanWhose: laid · PlanApart: laid · PlanFull: laid.
  DERIVED. THE GIVEN ROWS OF THIS SEAT. 6 by the template 'for every input the law returns true; each argument reads behind the call as it read before'; 0 by the template 'total and deterministic' (their statements: YtgdfhgoenemanaaDoorTotals.lean).
  GIVEN WITH THE SEED: the statements are not yours to turn. If you find one false, say at which input.
  Laid BY PROGRAM, IN A SANDBOX (cutbox-rows.mjs): the forced cells as the released guide's own fill.sh prints them over the translation dc753fa3092ea4dc… (all of the seat's roots in one cut). By AI agents, Wed Nov 11 2026. No macro, syntax, notation, axiom, sorry.
-/
import Derived.Test.YtgdfhgoenemanaaDoorChecked
import GoSem.PinnedTables
import GoSem.Claim
import GoSem.ClaimJoined
import GoSem.ClaimMapViews
import Derived.JoinedTies
import Derived.KernelRfl
namespace Go.Proofs.YtgdfhgoenemanaaDoor
/- THE CELL 'sum', in the pinned program and in every row, IS THE sha256 OF THE DUMP (.gsa) THAT YtgdfhgoenemanaaDoorProg.lean LOADS. Nothing in Lean hashes anything: it is a label: what it is worth is what the hold of that sum in a sandbox is worth. -/
noncomputable def Tryd.pinned : Pinned := { name := "ytgdfhgoenemanaadoor", sum := "dc753fa3092ea4dcbf414ace49e2bb8a27744b2cdb85ac81da701c7dd0a8b403", checked := Tryd.checked }
namespace Rows
def none {H : Type} : Left H := { results := [], args := [] }

/- WHAT THE LISTED PACKAGE-LEVEL VARIABLES READ AS WHEN THE CALL BEGINS. Each datum BY PROGRAM (the guide's laid-datum.mjs) off the statement by which the dump's own 'gosem.cut.vars' lays the variable. In a bare row this is a premise. The card (YtgdfhgoenemanaaDoorCards.lean) ties it to the program's text. -/
def laid_unicode_utf8_acceptRanges {H : Type} : DataW H := .agg [.agg [.lit (.int .u8 128), .lit (.int .u8 191)], .agg [.lit (.int .u8 160), .lit (.int .u8 191)], .agg [.lit (.int .u8 128), .lit (.int .u8 159)], .agg [.lit (.int .u8 144), .lit (.int .u8 191)], .agg [.lit (.int .u8 128), .lit (.int .u8 143)], .agg [.lit (.int .u8 0), .lit (.int .u8 0)], .agg [.lit (.int .u8 0), .lit (.int .u8 0)], .agg [.lit (.int .u8 0), .lit (.int .u8 0)], .agg [.lit (.int .u8 0), .lit (.int .u8 0)], .agg [.lit (.int .u8 0), .lit (.int .u8 0)], .agg [.lit (.int .u8 0), .lit (.int .u8 0)], .agg [.lit (.int .u8 0), .lit (.int .u8 0)], .agg [.lit (.int .u8 0), .lit (.int .u8 0)], .agg [.lit (.int .u8 0), .lit (.int .u8 0)], .agg [.lit (.int .u8 0), .lit (.int .u8 0)], .agg [.lit (.int .u8 0), .lit (.int .u8 0)]]
/-- One of Go's own tables, pinned by name: the form's constant. -/
def laid_unicode_utf8_first : DataW Unit := Go.Pinned.utf8First

/-- 'aileronlaw06.PlanOf': WHATEVER THE INPUT: true; the input reads as it did. -/
def planOfSpec : ChangeSpec := { name := "planOf", fn := fun _ => fun
  | [d] => { results := [.lit (.bool true)], args := [d] }
  | _ => none }
def planOfRow : OpenClaim := { program := "ytgdfhgoenemanaadoor", sum := "dc753fa3092ea4dcbf414ace49e2bb8a27744b2cdb85ac81da701c7dd0a8b403", func := "aileron/aileronlaw06.PlanOf", spec := "planOf", inPlace := ["internal/bytealg.IndexByteString", "internal/bytealg.IndexString"], unfollowed := true, recurses := true, named := ["unicode/utf8.first", "unicode/utf8.acceptRanges", "internal/bytealg.MaxLen"], apart := false, laid := [("unicode/utf8.acceptRanges", laid_unicode_utf8_acceptRanges), ("unicode/utf8.first", laid_unicode_utf8_first)] }
def PlanOfSaid : Prop := planOfRow.holds Tryd.pinned (OpenSpec.ofChange planOfSpec)

/-- ITS FALSE NEIGHBOUR: 'it returns false'. Refute it at one input. -/
def planOfWrong : ChangeSpec := { name := "planOf", fn := fun _ => fun
  | [d] => { results := [.lit (.bool false)], args := [d] }
  | _ => none }
def PlanOfWrongFalsely : Prop := planOfRow.holds Tryd.pinned (OpenSpec.ofChange planOfWrong)

/-- 'aileronlaw06.PlanAt': WHATEVER THE INPUT: true; the input reads as it did. -/
def planAtSpec : ChangeSpec := { name := "planAt", fn := fun _ => fun
  | [d1, d2, d3] => { results := [.lit (.bool true)], args := [d1, d2, d3] }
  | _ => none }
def planAtRow : OpenClaim := { program := "ytgdfhgoenemanaadoor", sum := "dc753fa3092ea4dcbf414ace49e2bb8a27744b2cdb85ac81da701c7dd0a8b403", func := "aileron/aileronlaw06.PlanAt", spec := "planAt", inPlace := ["internal/bytealg.IndexByteString", "internal/bytealg.IndexString"], unfollowed := true, recurses := true, named := ["unicode/utf8.first", "unicode/utf8.acceptRanges", "internal/bytealg.MaxLen"], apart := false, laid := [("unicode/utf8.acceptRanges", laid_unicode_utf8_acceptRanges), ("unicode/utf8.first", laid_unicode_utf8_first)] }
def PlanAtSaid : Prop := planAtRow.holds Tryd.pinned (OpenSpec.ofChange planAtSpec)

/-- ITS FALSE NEIGHBOUR: 'it returns false'. Refute it at one input. -/
def planAtWrong : ChangeSpec := { name := "planAt", fn := fun _ => fun
  | [d1, d2, d3] => { results := [.lit (.bool false)], args := [d1, d2, d3] }
  | _ => none }
def PlanAtWrongFalsely : Prop := planAtRow.holds Tryd.pinned (OpenSpec.ofChange planAtWrong)

/-- 'aileronlaw06.PlanRounds': WHATEVER THE INPUT: true; the input reads as it did. -/
def planRoundsSpec : ChangeSpec := { name := "planRounds", fn := fun _ => fun
  | [d1, d2] => { results := [.lit (.bool true)], args := [d1, d2] }
  | _ => none }
def planRoundsRow : OpenClaim := { program := "ytgdfhgoenemanaadoor", sum := "dc753fa3092ea4dcbf414ace49e2bb8a27744b2cdb85ac81da701c7dd0a8b403", func := "aileron/aileronlaw06.PlanRounds", spec := "planRounds", inPlace := ["internal/bytealg.IndexByteString", "internal/bytealg.IndexString"], unfollowed := true, recurses := true, named := ["unicode/utf8.first", "unicode/utf8.acceptRanges", "internal/bytealg.MaxLen"], apart := false, laid := [("unicode/utf8.acceptRanges", laid_unicode_utf8_acceptRanges), ("unicode/utf8.first", laid_unicode_utf8_first)] }
def PlanRoundsSaid : Prop := planRoundsRow.holds Tryd.pinned (OpenSpec.ofChange planRoundsSpec)

/-- ITS FALSE NEIGHBOUR: 'it returns false'. Refute it at one input. -/
def planRoundsWrong : ChangeSpec := { name := "planRounds", fn := fun _ => fun
  | [d1, d2] => { results := [.lit (.bool false)], args := [d1, d2] }
  | _ => none }
def PlanRoundsWrongFalsely : Prop := planRoundsRow.holds Tryd.pinned (OpenSpec.ofChange planRoundsWrong)

/-- 'aileronlaw06.PlanWhose': WHATEVER THE INPUT: true; the input reads as it did. -/
def planWhoseSpec : ChangeSpec := { name := "planWhose", fn := fun _ => fun
  | [d1, d2] => { results := [.lit (.bool true)], args := [d1, d2] }
  | _ => none }
def planWhoseRow : OpenClaim := { program := "ytgdfhgoenemanaadoor", sum := "dc753fa3092ea4dcbf414ace49e2bb8a27744b2cdb85ac81da701c7dd0a8b403", func := "aileron/aileronlaw06.PlanWhose", spec := "planWhose", inPlace := ["internal/bytealg.IndexByteString", "internal/bytealg.IndexString"], unfollowed := true, recurses := true, named := ["unicode/utf8.first", "unicode/utf8.acceptRanges", "internal/bytealg.MaxLen"], apart := false, laid := [("unicode/utf8.acceptRanges", laid_unicode_utf8_acceptRanges), ("unicode/utf8.first", laid_unicode_utf8_first)] }
def PlanWhoseSaid : Prop := planWhoseRow.holds Tryd.pinned (OpenSpec.ofChange planWhoseSpec)

/-- ITS FALSE NEIGHBOUR: 'it returns false'. Refute it at one input. -/
def planWhoseWrong : ChangeSpec := { name := "planWhose", fn := fun _ => fun
  | [d1, d2] => { results := [.lit (.bool false)], args := [d1, d2] }
  | _ => none }
def PlanWhoseWrongFalsely : Prop := planWhoseRow.holds Tryd.pinned (OpenSpec.ofChange planWhoseWrong)

/-- 'aileronlaw06.PlanApart': WHATEVER THE INPUT: true; the input reads as it did. -/
def planApartSpec : ChangeSpec := { name := "planApart", fn := fun _ => fun
  | [d1, d2, d3] => { results := [.lit (.bool true)], args := [d1, d2, d3] }
  | _ => none }
def planApartRow : OpenClaim := { program := "ytgdfhgoenemanaadoor", sum := "dc753fa3092ea4dcbf414ace49e2bb8a27744b2cdb85ac81da701c7dd0a8b403", func := "aileron/aileronlaw06.PlanApart", spec := "planApart", inPlace := ["internal/bytealg.IndexByteString", "internal/bytealg.IndexString"], unfollowed := true, recurses := true, named := ["unicode/utf8.first", "unicode/utf8.acceptRanges", "internal/bytealg.MaxLen"], apart := false, laid := [("unicode/utf8.acceptRanges", laid_unicode_utf8_acceptRanges), ("unicode/utf8.first", laid_unicode_utf8_first)] }
def PlanApartSaid : Prop := planApartRow.holds Tryd.pinned (OpenSpec.ofChange planApartSpec)

/-- ITS FALSE NEIGHBOUR: 'it returns false'. Refute it at one input. -/
def planApartWrong : ChangeSpec := { name := "planApart", fn := fun _ => fun
  | [d1, d2, d3] => { results := [.lit (.bool false)], args := [d1, d2, d3] }
  | _ => none }
def PlanApartWrongFalsely : Prop := planApartRow.holds Tryd.pinned (OpenSpec.ofChange planApartWrong)

/-- 'aileronlaw06.PlanFull': WHATEVER THE INPUT: true; the input reads as it did. -/
def planFullSpec : ChangeSpec := { name := "planFull", fn := fun _ => fun
  | [d] => { results := [.lit (.bool true)], args := [d] }
  | _ => none }
def planFullRow : OpenClaim := { program := "ytgdfhgoenemanaadoor", sum := "dc753fa3092ea4dcbf414ace49e2bb8a27744b2cdb85ac81da701c7dd0a8b403", func := "aileron/aileronlaw06.PlanFull", spec := "planFull", inPlace := ["internal/bytealg.IndexByteString", "internal/bytealg.IndexString"], unfollowed := true, recurses := true, named := ["unicode/utf8.first", "unicode/utf8.acceptRanges", "internal/bytealg.MaxLen"], apart := false, laid := [("unicode/utf8.acceptRanges", laid_unicode_utf8_acceptRanges), ("unicode/utf8.first", laid_unicode_utf8_first)] }
def PlanFullSaid : Prop := planFullRow.holds Tryd.pinned (OpenSpec.ofChange planFullSpec)

/-- ITS FALSE NEIGHBOUR: 'it returns false'. Refute it at one input. -/
def planFullWrong : ChangeSpec := { name := "planFull", fn := fun _ => fun
  | [d] => { results := [.lit (.bool false)], args := [d] }
  | _ => none }
def PlanFullWrongFalsely : Prop := planFullRow.holds Tryd.pinned (OpenSpec.ofChange planFullWrong)

/- THE SECOND FORM. 'bulk': how many values and letters a reading holds, each counted each time it is reached (what is shared counts as often as it is met; a slice's spare places count too). A statement '..UptoSaid' is the law's where the arguments, and the package variables that the reading takes, are together of bulk at most 1048576: NARROWER than '..Said'. Prove '..Said' where nothing that the law and all that it calls make is longer than what came in: it says more and counts as full. Else prove '..UptoSaid'. A law counts once. -/
mutual
def uptoBulk {H : Type} : DataW H → Nat
  | .lit (.string bytes) => bytes.length + 1
  | .lit _ => 1
  | .nil => 1
  | .ptr d => uptoBulk d + 1
  | .slice elems spare => uptoBulkAll elems + uptoBulkAll spare + 1
  | .agg parts => uptoBulkAll parts + 1
  | .iface _ d => uptoBulk d + 1
  | .map entries => uptoBulkEntries entries + 1
  | .held _ => 1
def uptoBulkAll {H : Type} : List (DataW H) → Nat
  | [] => 0
  | d :: r => uptoBulk d + uptoBulkAll r
def uptoBulkEntries {H : Type} : List (Lit × DataW H) → Nat
  | [] => 0
  | x :: r => uptoBulkEntry x + uptoBulkEntries r
def uptoBulkEntry {H : Type} : Lit × DataW H → Nat
  | (.string bytes, d) => bytes.length + uptoBulk d + 1
  | (_, d) => uptoBulk d + 1
 end
def uptoSmall : (H : Type) → List (DataW H) → Bool := fun _ ds => decide (uptoBulkAll ds ≤ 1048576)
def OpenSpec.upto (s : _root_.Go.ChangeSpec) : _root_.Go.OpenSpec := { _root_.Go.OpenSpec.ofChange s with cond := some uptoSmall }

/-- 'aileronlaw06.PlanOf', WHERE WHAT IT READS IS OF BULK AT MOST 1048576: true; the input reads as it did. -/
def planOfUptoRow : OpenClaim := { program := "ytgdfhgoenemanaadoor", sum := "dc753fa3092ea4dcbf414ace49e2bb8a27744b2cdb85ac81da701c7dd0a8b403", func := "aileron/aileronlaw06.PlanOf", spec := "planOf", inPlace := ["internal/bytealg.IndexByteString", "internal/bytealg.IndexString"], unfollowed := true, recurses := true, named := ["unicode/utf8.first", "unicode/utf8.acceptRanges", "internal/bytealg.MaxLen"], apart := false, laid := [("unicode/utf8.acceptRanges", laid_unicode_utf8_acceptRanges), ("unicode/utf8.first", laid_unicode_utf8_first)], narrowed := true }
def PlanOfUptoSaid : Prop := planOfUptoRow.holds Tryd.pinned (OpenSpec.upto planOfSpec)

/-- 'aileronlaw06.PlanAt', WHERE WHAT IT READS IS OF BULK AT MOST 1048576: true; the input reads as it did. -/
def planAtUptoRow : OpenClaim := { program := "ytgdfhgoenemanaadoor", sum := "dc753fa3092ea4dcbf414ace49e2bb8a27744b2cdb85ac81da701c7dd0a8b403", func := "aileron/aileronlaw06.PlanAt", spec := "planAt", inPlace := ["internal/bytealg.IndexByteString", "internal/bytealg.IndexString"], unfollowed := true, recurses := true, named := ["unicode/utf8.first", "unicode/utf8.acceptRanges", "internal/bytealg.MaxLen"], apart := false, laid := [("unicode/utf8.acceptRanges", laid_unicode_utf8_acceptRanges), ("unicode/utf8.first", laid_unicode_utf8_first)], narrowed := true }
def PlanAtUptoSaid : Prop := planAtUptoRow.holds Tryd.pinned (OpenSpec.upto planAtSpec)

/-- 'aileronlaw06.PlanRounds', WHERE WHAT IT READS IS OF BULK AT MOST 1048576: true; the input reads as it did. -/
def planRoundsUptoRow : OpenClaim := { program := "ytgdfhgoenemanaadoor", sum := "dc753fa3092ea4dcbf414ace49e2bb8a27744b2cdb85ac81da701c7dd0a8b403", func := "aileron/aileronlaw06.PlanRounds", spec := "planRounds", inPlace := ["internal/bytealg.IndexByteString", "internal/bytealg.IndexString"], unfollowed := true, recurses := true, named := ["unicode/utf8.first", "unicode/utf8.acceptRanges", "internal/bytealg.MaxLen"], apart := false, laid := [("unicode/utf8.acceptRanges", laid_unicode_utf8_acceptRanges), ("unicode/utf8.first", laid_unicode_utf8_first)], narrowed := true }
def PlanRoundsUptoSaid : Prop := planRoundsUptoRow.holds Tryd.pinned (OpenSpec.upto planRoundsSpec)

/-- 'aileronlaw06.PlanWhose', WHERE WHAT IT READS IS OF BULK AT MOST 1048576: true; the input reads as it did. -/
def planWhoseUptoRow : OpenClaim := { program := "ytgdfhgoenemanaadoor", sum := "dc753fa3092ea4dcbf414ace49e2bb8a27744b2cdb85ac81da701c7dd0a8b403", func := "aileron/aileronlaw06.PlanWhose", spec := "planWhose", inPlace := ["internal/bytealg.IndexByteString", "internal/bytealg.IndexString"], unfollowed := true, recurses := true, named := ["unicode/utf8.first", "unicode/utf8.acceptRanges", "internal/bytealg.MaxLen"], apart := false, laid := [("unicode/utf8.acceptRanges", laid_unicode_utf8_acceptRanges), ("unicode/utf8.first", laid_unicode_utf8_first)], narrowed := true }
def PlanWhoseUptoSaid : Prop := planWhoseUptoRow.holds Tryd.pinned (OpenSpec.upto planWhoseSpec)

/-- 'aileronlaw06.PlanApart', WHERE WHAT IT READS IS OF BULK AT MOST 1048576: true; the input reads as it did. -/
def planApartUptoRow : OpenClaim := { program := "ytgdfhgoenemanaadoor", sum := "dc753fa3092ea4dcbf414ace49e2bb8a27744b2cdb85ac81da701c7dd0a8b403", func := "aileron/aileronlaw06.PlanApart", spec := "planApart", inPlace := ["internal/bytealg.IndexByteString", "internal/bytealg.IndexString"], unfollowed := true, recurses := true, named := ["unicode/utf8.first", "unicode/utf8.acceptRanges", "internal/bytealg.MaxLen"], apart := false, laid := [("unicode/utf8.acceptRanges", laid_unicode_utf8_acceptRanges), ("unicode/utf8.first", laid_unicode_utf8_first)], narrowed := true }
def PlanApartUptoSaid : Prop := planApartUptoRow.holds Tryd.pinned (OpenSpec.upto planApartSpec)

/-- 'aileronlaw06.PlanFull', WHERE WHAT IT READS IS OF BULK AT MOST 1048576: true; the input reads as it did. -/
def planFullUptoRow : OpenClaim := { program := "ytgdfhgoenemanaadoor", sum := "dc753fa3092ea4dcbf414ace49e2bb8a27744b2cdb85ac81da701c7dd0a8b403", func := "aileron/aileronlaw06.PlanFull", spec := "planFull", inPlace := ["internal/bytealg.IndexByteString", "internal/bytealg.IndexString"], unfollowed := true, recurses := true, named := ["unicode/utf8.first", "unicode/utf8.acceptRanges", "internal/bytealg.MaxLen"], apart := false, laid := [("unicode/utf8.acceptRanges", laid_unicode_utf8_acceptRanges), ("unicode/utf8.first", laid_unicode_utf8_first)], narrowed := true }
def PlanFullUptoSaid : Prop := planFullUptoRow.holds Tryd.pinned (OpenSpec.upto planFullSpec)

end Rows
end Go.Proofs.YtgdfhgoenemanaaDoor
