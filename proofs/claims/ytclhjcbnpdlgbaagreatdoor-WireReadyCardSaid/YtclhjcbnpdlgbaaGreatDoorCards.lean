/-
  DERIVED. GIVEN WITH THE SEED: THE CARDS: each row of YtclhjcbnpdlgbaaGreatDoorRows.lean that lists a variable, with what it lists TIED to the program's text (the seventh form; the later family's looks); each row that meets fmt, with fmt's text TOLD by the authors' own Lean function (tested against real Go, not proved from fmt's source: count such statements apart). THE CARD IS WHAT COUNTS. Prove the row's statement (the work); the ties are given (YtclhjcbnpdlgbaaGreatDoorTie.lean); close each card by the builder's one call (the guide's Derived/Test/ToyasCard.lean, 'card_holds'). Laid BY PROGRAM, IN A SANDBOX (cutbox-door.mjs). By AI agents, Wed Nov 11 2026. No macro, syntax, notation, axiom, sorry.
-/
import Derived.Test.YtclhjcbnpdlgbaaGreatDoorRows
import GoSem.ClaimSeven
namespace Go.Proofs.YtclhjcbnpdlgbaaGreatDoor
namespace Rows

/-- THE TIED CARD OF 'copyistlaw10.WireBytes'. -/
def wireBytesCard : Claim7 := { stood := { row := wireBytesRow, standIns := [], harness := (true, "003eb8893df8a691bd1ffb9978fe5d26ddf67d21a19b756d79b6cc3443ab6641"), looks := false }, kinds := [], alts := [], laidByText := true, laidKinds := [.data], laidTests := true, laidLooks := .later }
def WireBytesCardSaid : Prop := Claim7.holds Tryz.pinned (.plain (OpenSpec.ofChange wireBytesSpec)) wireBytesCard

/-- THE TIED CARD OF 'copyistlaw10.WireReads'. -/
def wireReadsCard : Claim7 := { stood := { row := wireReadsRow, standIns := [], harness := (true, "003eb8893df8a691bd1ffb9978fe5d26ddf67d21a19b756d79b6cc3443ab6641"), looks := false }, kinds := [], alts := [], laidByText := true, laidKinds := [.data], laidTests := true, laidLooks := .later }
def WireReadsCardSaid : Prop := Claim7.holds Tryz.pinned (.plain (OpenSpec.ofChange wireReadsSpec)) wireReadsCard

/-- THE TIED CARD OF 'copyistlaw10.WireSpoilt'. -/
def wireSpoiltCard : Claim7 := { stood := { row := wireSpoiltRow, standIns := [], harness := (true, "003eb8893df8a691bd1ffb9978fe5d26ddf67d21a19b756d79b6cc3443ab6641"), looks := false }, kinds := [], alts := [], laidByText := true, laidKinds := [.data], laidTests := true, laidLooks := .later }
def WireSpoiltCardSaid : Prop := Claim7.holds Tryz.pinned (.plain (OpenSpec.ofChange wireSpoiltSpec)) wireSpoiltCard

/-- THE TIED CARD OF 'copyistlaw10.WireReady'. -/
def wireReadyCard : Claim7 := { stood := { row := wireReadyRow, standIns := [], harness := (true, "003eb8893df8a691bd1ffb9978fe5d26ddf67d21a19b756d79b6cc3443ab6641"), looks := false }, kinds := [], alts := [], laidByText := true, laidKinds := [.data], laidTests := true, laidLooks := .later }
def WireReadyCardSaid : Prop := Claim7.holds Tryz.pinned (.plain (OpenSpec.ofChange wireReadySpec)) wireReadyCard

/-- THE SECOND FORM's CARD OF 'copyistlaw10.WireBytes'. -/
def wireBytesUptoCard : Claim7 := { stood := { row := wireBytesUptoRow, standIns := [], harness := (true, "003eb8893df8a691bd1ffb9978fe5d26ddf67d21a19b756d79b6cc3443ab6641"), looks := false }, kinds := [], alts := [], laidByText := true, laidKinds := [.data], laidTests := true, laidLooks := .later }
def WireBytesUptoCardSaid : Prop := Claim7.holds Tryz.pinned (.plain (OpenSpec.upto wireBytesSpec)) wireBytesUptoCard

/-- THE SECOND FORM's CARD OF 'copyistlaw10.WireReads'. -/
def wireReadsUptoCard : Claim7 := { stood := { row := wireReadsUptoRow, standIns := [], harness := (true, "003eb8893df8a691bd1ffb9978fe5d26ddf67d21a19b756d79b6cc3443ab6641"), looks := false }, kinds := [], alts := [], laidByText := true, laidKinds := [.data], laidTests := true, laidLooks := .later }
def WireReadsUptoCardSaid : Prop := Claim7.holds Tryz.pinned (.plain (OpenSpec.upto wireReadsSpec)) wireReadsUptoCard

/-- THE SECOND FORM's CARD OF 'copyistlaw10.WireSpoilt'. -/
def wireSpoiltUptoCard : Claim7 := { stood := { row := wireSpoiltUptoRow, standIns := [], harness := (true, "003eb8893df8a691bd1ffb9978fe5d26ddf67d21a19b756d79b6cc3443ab6641"), looks := false }, kinds := [], alts := [], laidByText := true, laidKinds := [.data], laidTests := true, laidLooks := .later }
def WireSpoiltUptoCardSaid : Prop := Claim7.holds Tryz.pinned (.plain (OpenSpec.upto wireSpoiltSpec)) wireSpoiltUptoCard

/-- THE SECOND FORM's CARD OF 'copyistlaw10.WireReady'. -/
def wireReadyUptoCard : Claim7 := { stood := { row := wireReadyUptoRow, standIns := [], harness := (true, "003eb8893df8a691bd1ffb9978fe5d26ddf67d21a19b756d79b6cc3443ab6641"), looks := false }, kinds := [], alts := [], laidByText := true, laidKinds := [.data], laidTests := true, laidLooks := .later }
def WireReadyUptoCardSaid : Prop := Claim7.holds Tryz.pinned (.plain (OpenSpec.upto wireReadySpec)) wireReadyUptoCard
end Rows
end Go.Proofs.YtclhjcbnpdlgbaaGreatDoor
