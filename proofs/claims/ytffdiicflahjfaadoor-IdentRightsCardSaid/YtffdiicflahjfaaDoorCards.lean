/-
  DERIVED. GIVEN WITH THE SEED: THE CARDS: each row of YtffdiicflahjfaaDoorRows.lean that lists a variable, with what it lists TIED to the program's text (the seventh form; the later family's looks); each row that meets fmt, with fmt's text TOLD by the authors' own Lean function (tested against real Go, not proved from fmt's source: count such statements apart). THE CARD IS WHAT COUNTS. Prove the row's statement (the work); the ties are given (YtffdiicflahjfaaDoorTie.lean); close each card by the builder's one call (the guide's Derived/Test/ToyasCard.lean, 'card_holds'). Laid BY PROGRAM, IN A SANDBOX (cutbox-door.mjs). By AI agents, Wed Nov 11 2026. No macro, syntax, notation, axiom, sorry.
-/
import Derived.Test.YtffdiicflahjfaaDoorRows
import GoSem.ClaimSeven
namespace Go.Proofs.YtffdiicflahjfaaDoor
namespace Rows

/-- THE TIED CARD OF 'copyistlaw01.IdentRights'. -/
def identRightsCard : Claim7 := { stood := { row := identRightsRow, standIns := [], harness := (true, "270c557e9916b4dad64d0f4df51dced01e2f8d726eecc59c2e6f3d710b86da7d"), looks := true }, kinds := [], alts := [], laidByText := true, laidKinds := [.data], laidTests := true, laidLooks := .later }
def IdentRightsCardSaid : Prop := Claim7.holds Tryd.pinned (.plain (OpenSpec.ofChange identRightsSpec)) identRightsCard

/-- THE TIED CARD OF 'copyistlaw01.IdentShows'. -/
def identShowsCard : Claim7 := { stood := { row := identShowsRow, standIns := [], harness := (true, "270c557e9916b4dad64d0f4df51dced01e2f8d726eecc59c2e6f3d710b86da7d"), looks := true }, kinds := [], alts := [], laidByText := true, laidKinds := [.data, .data, .data, .sentinel, .sentinel], laidTests := true, laidLooks := .later }
def IdentShowsCardSaid : Prop := Claim7.holds Tryd.pinned (.plain (OpenSpec.ofChange identShowsSpec)) identShowsCard

/-- THE SECOND FORM's CARD OF 'copyistlaw01.IdentRights'. -/
def identRightsUptoCard : Claim7 := { stood := { row := identRightsUptoRow, standIns := [], harness := (true, "270c557e9916b4dad64d0f4df51dced01e2f8d726eecc59c2e6f3d710b86da7d"), looks := true }, kinds := [], alts := [], laidByText := true, laidKinds := [.data], laidTests := true, laidLooks := .later }
def IdentRightsUptoCardSaid : Prop := Claim7.holds Tryd.pinned (.plain (OpenSpec.upto identRightsSpec)) identRightsUptoCard

/-- THE SECOND FORM's CARD OF 'copyistlaw01.IdentShows'. -/
def identShowsUptoCard : Claim7 := { stood := { row := identShowsUptoRow, standIns := [], harness := (true, "270c557e9916b4dad64d0f4df51dced01e2f8d726eecc59c2e6f3d710b86da7d"), looks := true }, kinds := [], alts := [], laidByText := true, laidKinds := [.data, .data, .data, .sentinel, .sentinel], laidTests := true, laidLooks := .later }
def IdentShowsUptoCardSaid : Prop := Claim7.holds Tryd.pinned (.plain (OpenSpec.upto identShowsSpec)) identShowsUptoCard
end Rows
end Go.Proofs.YtffdiicflahjfaaDoor
