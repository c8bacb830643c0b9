/-
  DERIVED. GIVEN WITH THE SEED: THE CARDS: each row of YtgdfhgoenemanaaDoorRows.lean that lists a variable, with what it lists TIED to the program's text (the seventh form; the later family's looks); each row that meets fmt, with fmt's text TOLD by the authors' own Lean function (tested against real Go, not proved from fmt's source: count such statements apart). THE CARD IS WHAT COUNTS. Prove the row's statement (the work); the ties are given (YtgdfhgoenemanaaDoorTie.lean); close each card by the builder's one call (the guide's Derived/Test/ToyasCard.lean, 'card_holds'). Laid BY PROGRAM, IN A SANDBOX (cutbox-door.mjs). By AI agents, Wed Nov 11 2026. No macro, syntax, notation, axiom, sorry.
-/
import Derived.Test.YtgdfhgoenemanaaDoorRows
import GoSem.ClaimSeven
namespace Go.Proofs.YtgdfhgoenemanaaDoor
namespace Rows

/-- THE TIED CARD OF 'aileronlaw06.PlanOf'. -/
def planOfCard : Claim7 := { stood := { row := planOfRow, standIns := [], harness := (true, "bc30b3b2e7f3444b402a5d260afbfe44a777866d5c4f86fe3bc048fc1b625c60"), looks := false }, kinds := [], alts := [], laidByText := true, laidKinds := [.data, .pinned], laidTests := true, laidLooks := .later }
def PlanOfCardSaid : Prop := Claim7.holds Tryd.pinned (.plain (OpenSpec.ofChange planOfSpec)) planOfCard

/-- THE TIED CARD OF 'aileronlaw06.PlanAt'. -/
def planAtCard : Claim7 := { stood := { row := planAtRow, standIns := [], harness := (true, "bc30b3b2e7f3444b402a5d260afbfe44a777866d5c4f86fe3bc048fc1b625c60"), looks := false }, kinds := [], alts := [], laidByText := true, laidKinds := [.data, .pinned], laidTests := true, laidLooks := .later }
def PlanAtCardSaid : Prop := Claim7.holds Tryd.pinned (.plain (OpenSpec.ofChange planAtSpec)) planAtCard

/-- THE TIED CARD OF 'aileronlaw06.PlanRounds'. -/
def planRoundsCard : Claim7 := { stood := { row := planRoundsRow, standIns := [], harness := (true, "bc30b3b2e7f3444b402a5d260afbfe44a777866d5c4f86fe3bc048fc1b625c60"), looks := false }, kinds := [], alts := [], laidByText := true, laidKinds := [.data, .pinned], laidTests := true, laidLooks := .later }
def PlanRoundsCardSaid : Prop := Claim7.holds Tryd.pinned (.plain (OpenSpec.ofChange planRoundsSpec)) planRoundsCard

/-- THE TIED CARD OF 'aileronlaw06.PlanWhose'. -/
def planWhoseCard : Claim7 := { stood := { row := planWhoseRow, standIns := [], harness := (true, "bc30b3b2e7f3444b402a5d260afbfe44a777866d5c4f86fe3bc048fc1b625c60"), looks := false }, kinds := [], alts := [], laidByText := true, laidKinds := [.data, .pinned], laidTests := true, laidLooks := .later }
def PlanWhoseCardSaid : Prop := Claim7.holds Tryd.pinned (.plain (OpenSpec.ofChange planWhoseSpec)) planWhoseCard

/-- THE TIED CARD OF 'aileronlaw06.PlanApart'. -/
def planApartCard : Claim7 := { stood := { row := planApartRow, standIns := [], harness := (true, "bc30b3b2e7f3444b402a5d260afbfe44a777866d5c4f86fe3bc048fc1b625c60"), looks := false }, kinds := [], alts := [], laidByText := true, laidKinds := [.data, .pinned], laidTests := true, laidLooks := .later }
def PlanApartCardSaid : Prop := Claim7.holds Tryd.pinned (.plain (OpenSpec.ofChange planApartSpec)) planApartCard

/-- THE TIED CARD OF 'aileronlaw06.PlanFull'. -/
def planFullCard : Claim7 := { stood := { row := planFullRow, standIns := [], harness := (true, "bc30b3b2e7f3444b402a5d260afbfe44a777866d5c4f86fe3bc048fc1b625c60"), looks := false }, kinds := [], alts := [], laidByText := true, laidKinds := [.data, .pinned], laidTests := true, laidLooks := .later }
def PlanFullCardSaid : Prop := Claim7.holds Tryd.pinned (.plain (OpenSpec.ofChange planFullSpec)) planFullCard

/-- THE SECOND FORM's CARD OF 'aileronlaw06.PlanOf'. -/
def planOfUptoCard : Claim7 := { stood := { row := planOfUptoRow, standIns := [], harness := (true, "bc30b3b2e7f3444b402a5d260afbfe44a777866d5c4f86fe3bc048fc1b625c60"), looks := false }, kinds := [], alts := [], laidByText := true, laidKinds := [.data, .pinned], laidTests := true, laidLooks := .later }
def PlanOfUptoCardSaid : Prop := Claim7.holds Tryd.pinned (.plain (OpenSpec.upto planOfSpec)) planOfUptoCard

/-- THE SECOND FORM's CARD OF 'aileronlaw06.PlanAt'. -/
def planAtUptoCard : Claim7 := { stood := { row := planAtUptoRow, standIns := [], harness := (true, "bc30b3b2e7f3444b402a5d260afbfe44a777866d5c4f86fe3bc048fc1b625c60"), looks := false }, kinds := [], alts := [], laidByText := true, laidKinds := [.data, .pinned], laidTests := true, laidLooks := .later }
def PlanAtUptoCardSaid : Prop := Claim7.holds Tryd.pinned (.plain (OpenSpec.upto planAtSpec)) planAtUptoCard

/-- THE SECOND FORM's CARD OF 'aileronlaw06.PlanRounds'. -/
def planRoundsUptoCard : Claim7 := { stood := { row := planRoundsUptoRow, standIns := [], harness := (true, "bc30b3b2e7f3444b402a5d260afbfe44a777866d5c4f86fe3bc048fc1b625c60"), looks := false }, kinds := [], alts := [], laidByText := true, laidKinds := [.data, .pinned], laidTests := true, laidLooks := .later }
def PlanRoundsUptoCardSaid : Prop := Claim7.holds Tryd.pinned (.plain (OpenSpec.upto planRoundsSpec)) planRoundsUptoCard

/-- THE SECOND FORM's CARD OF 'aileronlaw06.PlanWhose'. -/
def planWhoseUptoCard : Claim7 := { stood := { row := planWhoseUptoRow, standIns := [], harness := (true, "bc30b3b2e7f3444b402a5d260afbfe44a777866d5c4f86fe3bc048fc1b625c60"), looks := false }, kinds := [], alts := [], laidByText := true, laidKinds := [.data, .pinned], laidTests := true, laidLooks := .later }
def PlanWhoseUptoCardSaid : Prop := Claim7.holds Tryd.pinned (.plain (OpenSpec.upto planWhoseSpec)) planWhoseUptoCard

/-- THE SECOND FORM's CARD OF 'aileronlaw06.PlanApart'. -/
def planApartUptoCard : Claim7 := { stood := { row := planApartUptoRow, standIns := [], harness := (true, "bc30b3b2e7f3444b402a5d260afbfe44a777866d5c4f86fe3bc048fc1b625c60"), looks := false }, kinds := [], alts := [], laidByText := true, laidKinds := [.data, .pinned], laidTests := true, laidLooks := .later }
def PlanApartUptoCardSaid : Prop := Claim7.holds Tryd.pinned (.plain (OpenSpec.upto planApartSpec)) planApartUptoCard

/-- THE SECOND FORM's CARD OF 'aileronlaw06.PlanFull'. -/
def planFullUptoCard : Claim7 := { stood := { row := planFullUptoRow, standIns := [], harness := (true, "bc30b3b2e7f3444b402a5d260afbfe44a777866d5c4f86fe3bc048fc1b625c60"), looks := false }, kinds := [], alts := [], laidByText := true, laidKinds := [.data, .pinned], laidTests := true, laidLooks := .later }
def PlanFullUptoCardSaid : Prop := Claim7.holds Tryd.pinned (.plain (OpenSpec.upto planFullSpec)) planFullUptoCard
end Rows
end Go.Proofs.YtgdfhgoenemanaaDoor
