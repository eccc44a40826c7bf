/-
  DERIVED. GIVEN WITH THE SEED: THE CARDS: each row of YtclhjcbnpdlgbaaDoorRows.lean that lists a variable, with what it lists TIED to the program's text (the seventh form; the later family's looks); each row that meets fmt, with fmt's text TOLD by the authors' own Lean function (tested against real Go, not proved from fmt's source: count such statements apart). THE CARD IS WHAT COUNTS. Prove the row's statement (the work); the ties are given (YtclhjcbnpdlgbaaDoorTie.lean); close each card by the builder's one call (the guide's Derived/Test/ToyasCard.lean, 'card_holds'). Laid BY PROGRAM, IN A SANDBOX (cutbox-door.mjs). By AI agents, Wed Nov 11 2026. No macro, syntax, notation, axiom, sorry.
-/
import Derived.Test.YtclhjcbnpdlgbaaDoorRows
import GoSem.ClaimSeven
namespace Go.Proofs.YtclhjcbnpdlgbaaDoor
namespace Rows

/-- THE TIED CARD OF 'copyistlaw08.OpFits'. -/
def opFitsCard : Claim7 := { stood := { row := opFitsRow, standIns := [], harness := (true, "3f7f3704a3cc68d3f20d767e0de7529f2f88e971d3f758f759e7d779368952b0"), looks := false }, kinds := [], alts := [], laidByText := true, laidKinds := [.data], laidTests := true, laidLooks := .later }
def OpFitsCardSaid : Prop := Claim7.holds Tryd.pinned (.plain (OpenSpec.ofChange opFitsSpec)) opFitsCard

/-- THE TIED CARD OF 'copyistlaw09.TxnFits'. -/
def txnFitsCard : Claim7 := { stood := { row := txnFitsRow, standIns := [], harness := (true, "3f7f3704a3cc68d3f20d767e0de7529f2f88e971d3f758f759e7d779368952b0"), looks := false }, kinds := [], alts := [], laidByText := true, laidKinds := [.data], laidTests := true, laidLooks := .later }
def TxnFitsCardSaid : Prop := Claim7.holds Tryd.pinned (.plain (OpenSpec.ofChange txnFitsSpec)) txnFitsCard

/-- THE SECOND FORM's CARD OF 'copyistlaw08.OpFits'. -/
def opFitsUptoCard : Claim7 := { stood := { row := opFitsUptoRow, standIns := [], harness := (true, "3f7f3704a3cc68d3f20d767e0de7529f2f88e971d3f758f759e7d779368952b0"), looks := false }, kinds := [], alts := [], laidByText := true, laidKinds := [.data], laidTests := true, laidLooks := .later }
def OpFitsUptoCardSaid : Prop := Claim7.holds Tryd.pinned (.plain (OpenSpec.upto opFitsSpec)) opFitsUptoCard

/-- THE SECOND FORM's CARD OF 'copyistlaw09.TxnFits'. -/
def txnFitsUptoCard : Claim7 := { stood := { row := txnFitsUptoRow, standIns := [], harness := (true, "3f7f3704a3cc68d3f20d767e0de7529f2f88e971d3f758f759e7d779368952b0"), looks := false }, kinds := [], alts := [], laidByText := true, laidKinds := [.data], laidTests := true, laidLooks := .later }
def TxnFitsUptoCardSaid : Prop := Claim7.holds Tryd.pinned (.plain (OpenSpec.upto txnFitsSpec)) txnFitsUptoCard
end Rows
end Go.Proofs.YtclhjcbnpdlgbaaDoor
