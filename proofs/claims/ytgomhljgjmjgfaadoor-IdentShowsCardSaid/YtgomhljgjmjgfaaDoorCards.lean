/-
  DERIVED. GIVEN WITH THE SEED: THE CARDS: each row of YtgomhljgjmjgfaaDoorRows.lean that lists a variable, with what it lists TIED to the program's text (the seventh form; the later family's looks); each row that meets fmt, with fmt's text TOLD by the authors' own Lean function (tested against real Go, not proved from fmt's source: count such statements apart). THE CARD IS WHAT COUNTS. Prove the row's statement (the work); the ties are given (YtgomhljgjmjgfaaDoorTie.lean); close each card by the builder's one call (the guide's Derived/Test/ToyasCard.lean, 'card_holds'). Laid BY PROGRAM, IN A SANDBOX (cutbox-door.mjs). By AI agents, Wed Nov 11 2026. No macro, syntax, notation, axiom, sorry.
-/
import Derived.Test.YtgomhljgjmjgfaaDoorRows
import GoSem.ClaimSeven
namespace Go.Proofs.YtgomhljgjmjgfaaDoor
namespace Rows

/-- THE TIED CARD OF 'copyistlaw01.IdentShows'. -/
def identShowsCard : Claim7 := { stood := { row := identShowsRow, standIns := [], harness := (true, "ba332ca3e2b2651e6230dc438a4175811c70ddaebfd355991b734416be45e310"), looks := true }, kinds := [], alts := [], laidByText := true, laidKinds := [.data, .data, .data, .sentinel, .sentinel], laidTests := true, laidLooks := .later }
def IdentShowsCardSaid : Prop := Claim7.holds Tryd.pinned (.plain (OpenSpec.ofChange identShowsSpec)) identShowsCard

/-- THE SECOND FORM's CARD OF 'copyistlaw01.IdentShows'. -/
def identShowsUptoCard : Claim7 := { stood := { row := identShowsUptoRow, standIns := [], harness := (true, "ba332ca3e2b2651e6230dc438a4175811c70ddaebfd355991b734416be45e310"), looks := true }, kinds := [], alts := [], laidByText := true, laidKinds := [.data, .data, .data, .sentinel, .sentinel], laidTests := true, laidLooks := .later }
def IdentShowsUptoCardSaid : Prop := Claim7.holds Tryd.pinned (.plain (OpenSpec.upto identShowsSpec)) identShowsUptoCard
end Rows
end Go.Proofs.YtgomhljgjmjgfaaDoor
