/-
  DERIVED. GIVEN WITH THE SEED: THE CARDS: each row of YtjnhmoafljfnkaaDoorRows.lean that lists a variable, with what it lists TIED to the program's text (the seventh form; the later family's looks); each row that meets fmt, with fmt's text TOLD by the authors' own Lean function (tested against real Go, not proved from fmt's source: count such statements apart). THE CARD IS WHAT COUNTS. Prove the row's statement (the work); the ties are given (YtjnhmoafljfnkaaDoorTie.lean); close each card by the builder's one call (the guide's Derived/Test/ToyasCard.lean, 'card_holds'). Laid BY PROGRAM, IN A SANDBOX (cutbox-door.mjs). By AI agents, Wed Nov 11 2026. No macro, syntax, notation, axiom, sorry.
-/
import Derived.Test.YtjnhmoafljfnkaaDoorRows
import GoSem.ClaimSeven
namespace Go.Proofs.YtjnhmoafljfnkaaDoor
namespace Rows

/-- THE TIED CARD OF 'aileronlaw14.RegPacks'. -/
def regPacksCard : Claim7 := { stood := { row := regPacksRow, standIns := [], harness := (true, "169196ba65053eed229779cd47c0877c60e4822ed6d51f48e04cd42abed8dae2"), looks := false }, kinds := [], alts := [], laidByText := true, laidKinds := [.data], laidTests := true, laidLooks := .later }
def RegPacksCardSaid : Prop := Claim7.holds Tryd.pinned (.plain (OpenSpec.ofChange regPacksSpec)) regPacksCard

/-- THE TIED CARD OF 'aileronlaw14.RegBacks'. -/
def regBacksCard : Claim7 := { stood := { row := regBacksRow, standIns := [], harness := (true, "169196ba65053eed229779cd47c0877c60e4822ed6d51f48e04cd42abed8dae2"), looks := false }, kinds := [], alts := [], laidByText := true, laidKinds := [.data], laidTests := true, laidLooks := .later }
def RegBacksCardSaid : Prop := Claim7.holds Tryd.pinned (.plain (OpenSpec.ofChange regBacksSpec)) regBacksCard

/-- THE TIED CARD OF 'aileronlaw14.RegDecides'. -/
def regDecidesCard : Claim7 := { stood := { row := regDecidesRow, standIns := [], harness := (true, "169196ba65053eed229779cd47c0877c60e4822ed6d51f48e04cd42abed8dae2"), looks := false }, kinds := [], alts := [], laidByText := true, laidKinds := [.data], laidTests := true, laidLooks := .later }
def RegDecidesCardSaid : Prop := Claim7.holds Tryd.pinned (.plain (OpenSpec.ofChange regDecidesSpec)) regDecidesCard

/-- THE TIED CARD OF 'aileronlaw14.RegHolds'. -/
def regHoldsCard : Claim7 := { stood := { row := regHoldsRow, standIns := [], harness := (true, "169196ba65053eed229779cd47c0877c60e4822ed6d51f48e04cd42abed8dae2"), looks := false }, kinds := [], alts := [], laidByText := true, laidKinds := [.data], laidTests := true, laidLooks := .later }
def RegHoldsCardSaid : Prop := Claim7.holds Tryd.pinned (.plain (OpenSpec.ofChange regHoldsSpec)) regHoldsCard

/-- THE TIED CARD OF 'aileronlaw14.RegFollows'. -/
def regFollowsCard : Claim7 := { stood := { row := regFollowsRow, standIns := [], harness := (true, "169196ba65053eed229779cd47c0877c60e4822ed6d51f48e04cd42abed8dae2"), looks := false }, kinds := [], alts := [], laidByText := true, laidKinds := [.data], laidTests := true, laidLooks := .later }
def RegFollowsCardSaid : Prop := Claim7.holds Tryd.pinned (.plain (OpenSpec.ofChange regFollowsSpec)) regFollowsCard

/-- THE TIED CARD OF 'aileronlaw14.RegRuns'. -/
def regRunsCard : Claim7 := { stood := { row := regRunsRow, standIns := [], harness := (true, "169196ba65053eed229779cd47c0877c60e4822ed6d51f48e04cd42abed8dae2"), looks := false }, kinds := [], alts := [], laidByText := true, laidKinds := [.data], laidTests := true, laidLooks := .later }
def RegRunsCardSaid : Prop := Claim7.holds Tryd.pinned (.plain (OpenSpec.ofChange regRunsSpec)) regRunsCard

/-- THE SECOND FORM's CARD OF 'aileronlaw14.RegPacks'. -/
def regPacksUptoCard : Claim7 := { stood := { row := regPacksUptoRow, standIns := [], harness := (true, "169196ba65053eed229779cd47c0877c60e4822ed6d51f48e04cd42abed8dae2"), looks := false }, kinds := [], alts := [], laidByText := true, laidKinds := [.data], laidTests := true, laidLooks := .later }
def RegPacksUptoCardSaid : Prop := Claim7.holds Tryd.pinned (.plain (OpenSpec.upto regPacksSpec)) regPacksUptoCard

/-- THE SECOND FORM's CARD OF 'aileronlaw14.RegBacks'. -/
def regBacksUptoCard : Claim7 := { stood := { row := regBacksUptoRow, standIns := [], harness := (true, "169196ba65053eed229779cd47c0877c60e4822ed6d51f48e04cd42abed8dae2"), looks := false }, kinds := [], alts := [], laidByText := true, laidKinds := [.data], laidTests := true, laidLooks := .later }
def RegBacksUptoCardSaid : Prop := Claim7.holds Tryd.pinned (.plain (OpenSpec.upto regBacksSpec)) regBacksUptoCard

/-- THE SECOND FORM's CARD OF 'aileronlaw14.RegDecides'. -/
def regDecidesUptoCard : Claim7 := { stood := { row := regDecidesUptoRow, standIns := [], harness := (true, "169196ba65053eed229779cd47c0877c60e4822ed6d51f48e04cd42abed8dae2"), looks := false }, kinds := [], alts := [], laidByText := true, laidKinds := [.data], laidTests := true, laidLooks := .later }
def RegDecidesUptoCardSaid : Prop := Claim7.holds Tryd.pinned (.plain (OpenSpec.upto regDecidesSpec)) regDecidesUptoCard

/-- THE SECOND FORM's CARD OF 'aileronlaw14.RegHolds'. -/
def regHoldsUptoCard : Claim7 := { stood := { row := regHoldsUptoRow, standIns := [], harness := (true, "169196ba65053eed229779cd47c0877c60e4822ed6d51f48e04cd42abed8dae2"), looks := false }, kinds := [], alts := [], laidByText := true, laidKinds := [.data], laidTests := true, laidLooks := .later }
def RegHoldsUptoCardSaid : Prop := Claim7.holds Tryd.pinned (.plain (OpenSpec.upto regHoldsSpec)) regHoldsUptoCard

/-- THE SECOND FORM's CARD OF 'aileronlaw14.RegFollows'. -/
def regFollowsUptoCard : Claim7 := { stood := { row := regFollowsUptoRow, standIns := [], harness := (true, "169196ba65053eed229779cd47c0877c60e4822ed6d51f48e04cd42abed8dae2"), looks := false }, kinds := [], alts := [], laidByText := true, laidKinds := [.data], laidTests := true, laidLooks := .later }
def RegFollowsUptoCardSaid : Prop := Claim7.holds Tryd.pinned (.plain (OpenSpec.upto regFollowsSpec)) regFollowsUptoCard

/-- THE SECOND FORM's CARD OF 'aileronlaw14.RegRuns'. -/
def regRunsUptoCard : Claim7 := { stood := { row := regRunsUptoRow, standIns := [], harness := (true, "169196ba65053eed229779cd47c0877c60e4822ed6d51f48e04cd42abed8dae2"), looks := false }, kinds := [], alts := [], laidByText := true, laidKinds := [.data], laidTests := true, laidLooks := .later }
def RegRunsUptoCardSaid : Prop := Claim7.holds Tryd.pinned (.plain (OpenSpec.upto regRunsSpec)) regRunsUptoCard
end Rows
end Go.Proofs.YtjnhmoafljfnkaaDoor
