/-
  DERIVED. GIVEN WITH THE SEED: THE CARDS: each row of YtmafkncobjiabaaDoorRows.lean that lists a variable, with what it lists TIED to the program's text (the seventh form; the later family's looks); each row that meets fmt, with fmt's text TOLD by the authors' own Lean function (tested against real Go, not proved from fmt's source: count such statements apart). THE CARD IS WHAT COUNTS. Prove the row's statement (the work); the ties are given (YtmafkncobjiabaaDoorTie.lean); close each card by the builder's one call (the guide's Derived/Test/ToyasCard.lean, 'card_holds'). Laid BY PROGRAM, IN A SANDBOX (cutbox-door.mjs). By AI agents, Wed Nov 11 2026. No macro, syntax, notation, axiom, sorry.
-/
import Derived.Test.YtmafkncobjiabaaDoorRows
import GoSem.ClaimSeven
namespace Go.Proofs.YtmafkncobjiabaaDoor
namespace Rows

/-- THE TIED CARD OF 'aileronlaw13.ModesWays'. -/
def modesWaysCard : Claim7 := { stood := { row := modesWaysRow, standIns := [], harness := (true, "2d78eafebaa22a18dc025091571ef4a55ab3ea186450a74281624460e7d63755"), looks := false }, kinds := [], alts := [], laidByText := true, laidKinds := [.data], laidTests := true, laidLooks := .later }
def ModesWaysCardSaid : Prop := Claim7.holds Tryd.pinned (.plain (OpenSpec.ofChange modesWaysSpec)) modesWaysCard

/-- THE TIED CARD OF 'aileronlaw13.ModesPaths'. -/
def modesPathsCard : Claim7 := { stood := { row := modesPathsRow, standIns := [], harness := (true, "2d78eafebaa22a18dc025091571ef4a55ab3ea186450a74281624460e7d63755"), looks := false }, kinds := [], alts := [], laidByText := true, laidKinds := [.data], laidTests := true, laidLooks := .later }
def ModesPathsCardSaid : Prop := Claim7.holds Tryd.pinned (.plain (OpenSpec.ofChange modesPathsSpec)) modesPathsCard

/-- THE TIED CARD OF 'aileronlaw13.ModesReach'. -/
def modesReachCard : Claim7 := { stood := { row := modesReachRow, standIns := [], harness := (true, "2d78eafebaa22a18dc025091571ef4a55ab3ea186450a74281624460e7d63755"), looks := false }, kinds := [], alts := [], laidByText := true, laidKinds := [.data], laidTests := true, laidLooks := .later }
def ModesReachCardSaid : Prop := Claim7.holds Tryd.pinned (.plain (OpenSpec.ofChange modesReachSpec)) modesReachCard

/-- THE TIED CARD OF 'aileronlaw13.ModesSteps'. -/
def modesStepsCard : Claim7 := { stood := { row := modesStepsRow, standIns := [], harness := (true, "2d78eafebaa22a18dc025091571ef4a55ab3ea186450a74281624460e7d63755"), looks := false }, kinds := [], alts := [], laidByText := true, laidKinds := [.data], laidTests := true, laidLooks := .later }
def ModesStepsCardSaid : Prop := Claim7.holds Tryd.pinned (.plain (OpenSpec.ofChange modesStepsSpec)) modesStepsCard

/-- THE TIED CARD OF 'aileronlaw13.ModesSafe'. -/
def modesSafeCard : Claim7 := { stood := { row := modesSafeRow, standIns := [], harness := (true, "2d78eafebaa22a18dc025091571ef4a55ab3ea186450a74281624460e7d63755"), looks := false }, kinds := [], alts := [], laidByText := true, laidKinds := [.data], laidTests := true, laidLooks := .later }
def ModesSafeCardSaid : Prop := Claim7.holds Tryd.pinned (.plain (OpenSpec.ofChange modesSafeSpec)) modesSafeCard

/-- THE TIED CARD OF 'aileronlaw13.ModesNames'. -/
def modesNamesCard : Claim7 := { stood := { row := modesNamesRow, standIns := [], harness := (true, "2d78eafebaa22a18dc025091571ef4a55ab3ea186450a74281624460e7d63755"), looks := false }, kinds := [], alts := [], laidByText := true, laidKinds := [.data], laidTests := true, laidLooks := .later }
def ModesNamesCardSaid : Prop := Claim7.holds Tryd.pinned (.plain (OpenSpec.ofChange modesNamesSpec)) modesNamesCard

/-- THE SECOND FORM's CARD OF 'aileronlaw13.ModesWays'. -/
def modesWaysUptoCard : Claim7 := { stood := { row := modesWaysUptoRow, standIns := [], harness := (true, "2d78eafebaa22a18dc025091571ef4a55ab3ea186450a74281624460e7d63755"), looks := false }, kinds := [], alts := [], laidByText := true, laidKinds := [.data], laidTests := true, laidLooks := .later }
def ModesWaysUptoCardSaid : Prop := Claim7.holds Tryd.pinned (.plain (OpenSpec.upto modesWaysSpec)) modesWaysUptoCard

/-- THE SECOND FORM's CARD OF 'aileronlaw13.ModesPaths'. -/
def modesPathsUptoCard : Claim7 := { stood := { row := modesPathsUptoRow, standIns := [], harness := (true, "2d78eafebaa22a18dc025091571ef4a55ab3ea186450a74281624460e7d63755"), looks := false }, kinds := [], alts := [], laidByText := true, laidKinds := [.data], laidTests := true, laidLooks := .later }
def ModesPathsUptoCardSaid : Prop := Claim7.holds Tryd.pinned (.plain (OpenSpec.upto modesPathsSpec)) modesPathsUptoCard

/-- THE SECOND FORM's CARD OF 'aileronlaw13.ModesReach'. -/
def modesReachUptoCard : Claim7 := { stood := { row := modesReachUptoRow, standIns := [], harness := (true, "2d78eafebaa22a18dc025091571ef4a55ab3ea186450a74281624460e7d63755"), looks := false }, kinds := [], alts := [], laidByText := true, laidKinds := [.data], laidTests := true, laidLooks := .later }
def ModesReachUptoCardSaid : Prop := Claim7.holds Tryd.pinned (.plain (OpenSpec.upto modesReachSpec)) modesReachUptoCard

/-- THE SECOND FORM's CARD OF 'aileronlaw13.ModesSteps'. -/
def modesStepsUptoCard : Claim7 := { stood := { row := modesStepsUptoRow, standIns := [], harness := (true, "2d78eafebaa22a18dc025091571ef4a55ab3ea186450a74281624460e7d63755"), looks := false }, kinds := [], alts := [], laidByText := true, laidKinds := [.data], laidTests := true, laidLooks := .later }
def ModesStepsUptoCardSaid : Prop := Claim7.holds Tryd.pinned (.plain (OpenSpec.upto modesStepsSpec)) modesStepsUptoCard

/-- THE SECOND FORM's CARD OF 'aileronlaw13.ModesSafe'. -/
def modesSafeUptoCard : Claim7 := { stood := { row := modesSafeUptoRow, standIns := [], harness := (true, "2d78eafebaa22a18dc025091571ef4a55ab3ea186450a74281624460e7d63755"), looks := false }, kinds := [], alts := [], laidByText := true, laidKinds := [.data], laidTests := true, laidLooks := .later }
def ModesSafeUptoCardSaid : Prop := Claim7.holds Tryd.pinned (.plain (OpenSpec.upto modesSafeSpec)) modesSafeUptoCard

/-- THE SECOND FORM's CARD OF 'aileronlaw13.ModesNames'. -/
def modesNamesUptoCard : Claim7 := { stood := { row := modesNamesUptoRow, standIns := [], harness := (true, "2d78eafebaa22a18dc025091571ef4a55ab3ea186450a74281624460e7d63755"), looks := false }, kinds := [], alts := [], laidByText := true, laidKinds := [.data], laidTests := true, laidLooks := .later }
def ModesNamesUptoCardSaid : Prop := Claim7.holds Tryd.pinned (.plain (OpenSpec.upto modesNamesSpec)) modesNamesUptoCard
end Rows
end Go.Proofs.YtmafkncobjiabaaDoor
