/-
  DERIVED. GIVEN WITH THE SEED: THE CARDS: each row of YtolbmgkoifchfaaDoorRows.lean that lists a variable, with what it lists TIED to the program's text (the seventh form; the later family's looks); each row that meets fmt, with fmt's text TOLD by the authors' own Lean function (tested against real Go, not proved from fmt's source: count such statements apart). THE CARD IS WHAT COUNTS. Prove the row's statement (the work); the ties are given (YtolbmgkoifchfaaDoorTie.lean); close each card by the builder's one call (the guide's Derived/Test/ToyasCard.lean, 'card_holds'). Laid BY PROGRAM, IN A SANDBOX (cutbox-door.mjs). By AI agents, Wed Nov 11 2026. No macro, syntax, notation, axiom, sorry.
-/
import Derived.Test.YtolbmgkoifchfaaDoorRows
import GoSem.ClaimSeven
namespace Go.Proofs.YtolbmgkoifchfaaDoor
namespace Rows

/-- THE TIED CARD OF 'copyistlaw09.TxnReads'. -/
def txnReadsCard : Claim7 := { stood := { row := txnReadsRow, standIns := [], harness := (true, "fd8fbdc146e197348215039d84efbceac7a8e5a93ecc298075ea2998154be3c1"), looks := false }, kinds := [], alts := [], laidByText := true, laidKinds := [.data], laidTests := true, laidLooks := .later }
def TxnReadsCardSaid : Prop := Claim7.holds Tryd.pinned (.plain (OpenSpec.ofChange txnReadsSpec)) txnReadsCard

/-- THE TIED CARD OF 'copyistlaw09.TxnBytes'. -/
def txnBytesCard : Claim7 := { stood := { row := txnBytesRow, standIns := [], harness := (true, "fd8fbdc146e197348215039d84efbceac7a8e5a93ecc298075ea2998154be3c1"), looks := false }, kinds := [], alts := [], laidByText := true, laidKinds := [.data], laidTests := true, laidLooks := .later }
def TxnBytesCardSaid : Prop := Claim7.holds Tryd.pinned (.plain (OpenSpec.ofChange txnBytesSpec)) txnBytesCard

/-- THE SECOND FORM's CARD OF 'copyistlaw09.TxnReads'. -/
def txnReadsUptoCard : Claim7 := { stood := { row := txnReadsUptoRow, standIns := [], harness := (true, "fd8fbdc146e197348215039d84efbceac7a8e5a93ecc298075ea2998154be3c1"), looks := false }, kinds := [], alts := [], laidByText := true, laidKinds := [.data], laidTests := true, laidLooks := .later }
def TxnReadsUptoCardSaid : Prop := Claim7.holds Tryd.pinned (.plain (OpenSpec.upto txnReadsSpec)) txnReadsUptoCard

/-- THE SECOND FORM's CARD OF 'copyistlaw09.TxnBytes'. -/
def txnBytesUptoCard : Claim7 := { stood := { row := txnBytesUptoRow, standIns := [], harness := (true, "fd8fbdc146e197348215039d84efbceac7a8e5a93ecc298075ea2998154be3c1"), looks := false }, kinds := [], alts := [], laidByText := true, laidKinds := [.data], laidTests := true, laidLooks := .later }
def TxnBytesUptoCardSaid : Prop := Claim7.holds Tryd.pinned (.plain (OpenSpec.upto txnBytesSpec)) txnBytesUptoCard
end Rows
end Go.Proofs.YtolbmgkoifchfaaDoor
