/-
  DERIVED. GIVEN WITH THE SEED: THE CARDS: each row of YtkmlikohgilnbaaDoorRows.lean that lists a variable, with what it lists TIED to the program's text (the seventh form; the later family's looks); each row that meets fmt, with fmt's text TOLD by the authors' own Lean function (tested against real Go, not proved from fmt's source: count such statements apart). THE CARD IS WHAT COUNTS. Prove the row's statement (the work); the ties are given (YtkmlikohgilnbaaDoorTie.lean); close each card by the builder's one call (the guide's Derived/Test/ToyasCard.lean, 'card_holds'). Laid BY PROGRAM, IN A SANDBOX (cutbox-door.mjs). By AI agents, Wed Nov 11 2026. No macro, syntax, notation, axiom, sorry.
-/
import Derived.Test.YtkmlikohgilnbaaDoorRows
import GoSem.ClaimSeven
namespace Go.Proofs.YtkmlikohgilnbaaDoor
namespace Rows

/-- THE TIED CARD OF 'aileronlaw15.ArbiterSpent'. -/
def arbiterSpentCard : Claim7 := { stood := { row := arbiterSpentRow, standIns := [], harness := (true, "4f9667ff1f4a44ad1d8ec0ff8908eda8dbee69a89b7b4324db5f4602b950de4a"), looks := false }, kinds := [], alts := [], laidByText := true, laidKinds := [.data], laidTests := true, laidLooks := .later }
def ArbiterSpentCardSaid : Prop := Claim7.holds Tryd.pinned (.plain (OpenSpec.ofChange arbiterSpentSpec)) arbiterSpentCard

/-- THE TIED CARD OF 'aileronlaw15.ArbiterNil'. -/
def arbiterNilCard : Claim7 := { stood := { row := arbiterNilRow, standIns := [], harness := (true, "4f9667ff1f4a44ad1d8ec0ff8908eda8dbee69a89b7b4324db5f4602b950de4a"), looks := false }, kinds := [], alts := [], laidByText := true, laidKinds := [.data], laidTests := true, laidLooks := .later }
def ArbiterNilCardSaid : Prop := Claim7.holds Tryd.pinned (.plain (OpenSpec.ofChange arbiterNilSpec)) arbiterNilCard

/-- THE TIED CARD OF 'aileronlaw15.ArbiterSteps'. -/
def arbiterStepsCard : Claim7 := { stood := { row := arbiterStepsRow, standIns := [], harness := (true, "4f9667ff1f4a44ad1d8ec0ff8908eda8dbee69a89b7b4324db5f4602b950de4a"), looks := false }, kinds := [], alts := [], laidByText := true, laidKinds := [.data], laidTests := true, laidLooks := .later }
def ArbiterStepsCardSaid : Prop := Claim7.holds Tryd.pinned (.plain (OpenSpec.ofChange arbiterStepsSpec)) arbiterStepsCard

/-- THE TIED CARD OF 'aileronlaw15.ArbiterAlone'. -/
def arbiterAloneCard : Claim7 := { stood := { row := arbiterAloneRow, standIns := [], harness := (true, "4f9667ff1f4a44ad1d8ec0ff8908eda8dbee69a89b7b4324db5f4602b950de4a"), looks := false }, kinds := [], alts := [], laidByText := true, laidKinds := [.data], laidTests := true, laidLooks := .later }
def ArbiterAloneCardSaid : Prop := Claim7.holds Tryd.pinned (.plain (OpenSpec.ofChange arbiterAloneSpec)) arbiterAloneCard

/-- THE TIED CARD OF 'aileronlaw15.ArbiterRuns'. -/
def arbiterRunsCard : Claim7 := { stood := { row := arbiterRunsRow, standIns := [], harness := (true, "4f9667ff1f4a44ad1d8ec0ff8908eda8dbee69a89b7b4324db5f4602b950de4a"), looks := false }, kinds := [], alts := [], laidByText := true, laidKinds := [.data], laidTests := true, laidLooks := .later }
def ArbiterRunsCardSaid : Prop := Claim7.holds Tryd.pinned (.plain (OpenSpec.ofChange arbiterRunsSpec)) arbiterRunsCard

/-- THE SECOND FORM's CARD OF 'aileronlaw15.ArbiterSpent'. -/
def arbiterSpentUptoCard : Claim7 := { stood := { row := arbiterSpentUptoRow, standIns := [], harness := (true, "4f9667ff1f4a44ad1d8ec0ff8908eda8dbee69a89b7b4324db5f4602b950de4a"), looks := false }, kinds := [], alts := [], laidByText := true, laidKinds := [.data], laidTests := true, laidLooks := .later }
def ArbiterSpentUptoCardSaid : Prop := Claim7.holds Tryd.pinned (.plain (OpenSpec.upto arbiterSpentSpec)) arbiterSpentUptoCard

/-- THE SECOND FORM's CARD OF 'aileronlaw15.ArbiterNil'. -/
def arbiterNilUptoCard : Claim7 := { stood := { row := arbiterNilUptoRow, standIns := [], harness := (true, "4f9667ff1f4a44ad1d8ec0ff8908eda8dbee69a89b7b4324db5f4602b950de4a"), looks := false }, kinds := [], alts := [], laidByText := true, laidKinds := [.data], laidTests := true, laidLooks := .later }
def ArbiterNilUptoCardSaid : Prop := Claim7.holds Tryd.pinned (.plain (OpenSpec.upto arbiterNilSpec)) arbiterNilUptoCard

/-- THE SECOND FORM's CARD OF 'aileronlaw15.ArbiterSteps'. -/
def arbiterStepsUptoCard : Claim7 := { stood := { row := arbiterStepsUptoRow, standIns := [], harness := (true, "4f9667ff1f4a44ad1d8ec0ff8908eda8dbee69a89b7b4324db5f4602b950de4a"), looks := false }, kinds := [], alts := [], laidByText := true, laidKinds := [.data], laidTests := true, laidLooks := .later }
def ArbiterStepsUptoCardSaid : Prop := Claim7.holds Tryd.pinned (.plain (OpenSpec.upto arbiterStepsSpec)) arbiterStepsUptoCard

/-- THE SECOND FORM's CARD OF 'aileronlaw15.ArbiterAlone'. -/
def arbiterAloneUptoCard : Claim7 := { stood := { row := arbiterAloneUptoRow, standIns := [], harness := (true, "4f9667ff1f4a44ad1d8ec0ff8908eda8dbee69a89b7b4324db5f4602b950de4a"), looks := false }, kinds := [], alts := [], laidByText := true, laidKinds := [.data], laidTests := true, laidLooks := .later }
def ArbiterAloneUptoCardSaid : Prop := Claim7.holds Tryd.pinned (.plain (OpenSpec.upto arbiterAloneSpec)) arbiterAloneUptoCard

/-- THE SECOND FORM's CARD OF 'aileronlaw15.ArbiterRuns'. -/
def arbiterRunsUptoCard : Claim7 := { stood := { row := arbiterRunsUptoRow, standIns := [], harness := (true, "4f9667ff1f4a44ad1d8ec0ff8908eda8dbee69a89b7b4324db5f4602b950de4a"), looks := false }, kinds := [], alts := [], laidByText := true, laidKinds := [.data], laidTests := true, laidLooks := .later }
def ArbiterRunsUptoCardSaid : Prop := Claim7.holds Tryd.pinned (.plain (OpenSpec.upto arbiterRunsSpec)) arbiterRunsUptoCard
end Rows
end Go.Proofs.YtkmlikohgilnbaaDoor
