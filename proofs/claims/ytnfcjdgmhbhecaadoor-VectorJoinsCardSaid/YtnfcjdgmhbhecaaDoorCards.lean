/-
  DERIVED. GIVEN WITH THE SEED: THE CARDS: each row of YtnfcjdgmhbhecaaDoorRows.lean that lists a variable, with what it lists TIED to the program's text (the seventh form; the later family's looks); each row that meets fmt, with fmt's text TOLD by the authors' own Lean function (tested against real Go, not proved from fmt's source: count such statements apart). THE CARD IS WHAT COUNTS. Prove the row's statement (the work); the ties are given (YtnfcjdgmhbhecaaDoorTie.lean); close each card by the builder's one call (the guide's Derived/Test/ToyasCard.lean, 'card_holds'). Laid BY PROGRAM, IN A SANDBOX (cutbox-door.mjs). By AI agents, Wed Nov 11 2026. No macro, syntax, notation, axiom, sorry.
-/
import Derived.Test.YtnfcjdgmhbhecaaDoorRows
import GoSem.ClaimSeven
namespace Go.Proofs.YtnfcjdgmhbhecaaDoor
namespace Rows

/-- THE TIED CARD OF 'copyistlaw04.WalkBytes'. -/
def walkBytesCard : Claim7 := { stood := { row := walkBytesRow, standIns := [], harness := (true, "c0c0f519ef3bb02b3fa8fd0468baaec2ea67804ac8dc5b612ef849989ae8b9f5"), looks := true }, kinds := [], alts := [], laidByText := true, laidKinds := [.data, .data, .data], laidTests := true, laidLooks := .later }
def WalkBytesCardSaid : Prop := Claim7.holds Tryd.pinned (.plain (OpenSpec.ofChange walkBytesSpec)) walkBytesCard

/-- THE TIED CARD OF 'copyistlaw34.TrailTexts'. -/
def trailTextsCard : Claim7 := { stood := { row := trailTextsRow, standIns := [], harness := (true, "c0c0f519ef3bb02b3fa8fd0468baaec2ea67804ac8dc5b612ef849989ae8b9f5"), looks := true }, kinds := [], alts := [], laidByText := true, laidKinds := [.data, .data, .data], laidTests := true, laidLooks := .later }
def TrailTextsCardSaid : Prop := Claim7.holds Tryd.pinned (.plain (OpenSpec.ofChange trailTextsSpec)) trailTextsCard

/-- THE TIED CARD OF 'copyistlaw02.VectorRights'. -/
def vectorRightsCard : Claim7 := { stood := { row := vectorRightsRow, standIns := [], harness := (true, "c0c0f519ef3bb02b3fa8fd0468baaec2ea67804ac8dc5b612ef849989ae8b9f5"), looks := true }, kinds := [], alts := [], laidByText := true, laidKinds := [.data, .data, .data], laidTests := true, laidLooks := .later }
def VectorRightsCardSaid : Prop := Claim7.holds Tryd.pinned (.plain (OpenSpec.ofChange vectorRightsSpec)) vectorRightsCard

/-- THE TIED CARD OF 'copyistlaw02.VectorLaws'. -/
def vectorLawsCard : Claim7 := { stood := { row := vectorLawsRow, standIns := [], harness := (true, "c0c0f519ef3bb02b3fa8fd0468baaec2ea67804ac8dc5b612ef849989ae8b9f5"), looks := true }, kinds := [], alts := [], laidByText := true, laidKinds := [.data, .data, .data], laidTests := true, laidLooks := .later }
def VectorLawsCardSaid : Prop := Claim7.holds Tryd.pinned (.plain (OpenSpec.ofChange vectorLawsSpec)) vectorLawsCard

/-- THE TIED CARD OF 'copyistlaw02.VectorJoins'. -/
def vectorJoinsCard : Claim7 := { stood := { row := vectorJoinsRow, standIns := [], harness := (true, "c0c0f519ef3bb02b3fa8fd0468baaec2ea67804ac8dc5b612ef849989ae8b9f5"), looks := true }, kinds := [], alts := [], laidByText := true, laidKinds := [.data, .data, .data], laidTests := true, laidLooks := .later }
def VectorJoinsCardSaid : Prop := Claim7.holds Tryd.pinned (.plain (OpenSpec.ofChange vectorJoinsSpec)) vectorJoinsCard

/-- THE TIED CARD OF 'copyistlaw02.VectorStands'. -/
def vectorStandsCard : Claim7 := { stood := { row := vectorStandsRow, standIns := [], harness := (true, "c0c0f519ef3bb02b3fa8fd0468baaec2ea67804ac8dc5b612ef849989ae8b9f5"), looks := true }, kinds := [], alts := [], laidByText := true, laidKinds := [.data, .data, .data], laidTests := true, laidLooks := .later }
def VectorStandsCardSaid : Prop := Claim7.holds Tryd.pinned (.plain (OpenSpec.ofChange vectorStandsSpec)) vectorStandsCard

/-- THE TIED CARD OF 'copyistlaw01.IdentShows'. -/
def identShowsCard : Claim7 := { stood := { row := identShowsRow, standIns := [], harness := (true, "c0c0f519ef3bb02b3fa8fd0468baaec2ea67804ac8dc5b612ef849989ae8b9f5"), looks := true }, kinds := [], alts := [], laidByText := true, laidKinds := [.data, .data, .data, .sentinel, .sentinel], laidTests := true, laidLooks := .later }
def IdentShowsCardSaid : Prop := Claim7.holds Tryd.pinned (.plain (OpenSpec.ofChange identShowsSpec)) identShowsCard

/-- THE SECOND FORM's CARD OF 'copyistlaw04.WalkBytes'. -/
def walkBytesUptoCard : Claim7 := { stood := { row := walkBytesUptoRow, standIns := [], harness := (true, "c0c0f519ef3bb02b3fa8fd0468baaec2ea67804ac8dc5b612ef849989ae8b9f5"), looks := true }, kinds := [], alts := [], laidByText := true, laidKinds := [.data, .data, .data], laidTests := true, laidLooks := .later }
def WalkBytesUptoCardSaid : Prop := Claim7.holds Tryd.pinned (.plain (OpenSpec.upto walkBytesSpec)) walkBytesUptoCard

/-- THE SECOND FORM's CARD OF 'copyistlaw34.TrailTexts'. -/
def trailTextsUptoCard : Claim7 := { stood := { row := trailTextsUptoRow, standIns := [], harness := (true, "c0c0f519ef3bb02b3fa8fd0468baaec2ea67804ac8dc5b612ef849989ae8b9f5"), looks := true }, kinds := [], alts := [], laidByText := true, laidKinds := [.data, .data, .data], laidTests := true, laidLooks := .later }
def TrailTextsUptoCardSaid : Prop := Claim7.holds Tryd.pinned (.plain (OpenSpec.upto trailTextsSpec)) trailTextsUptoCard

/-- THE SECOND FORM's CARD OF 'copyistlaw02.VectorRights'. -/
def vectorRightsUptoCard : Claim7 := { stood := { row := vectorRightsUptoRow, standIns := [], harness := (true, "c0c0f519ef3bb02b3fa8fd0468baaec2ea67804ac8dc5b612ef849989ae8b9f5"), looks := true }, kinds := [], alts := [], laidByText := true, laidKinds := [.data, .data, .data], laidTests := true, laidLooks := .later }
def VectorRightsUptoCardSaid : Prop := Claim7.holds Tryd.pinned (.plain (OpenSpec.upto vectorRightsSpec)) vectorRightsUptoCard

/-- THE SECOND FORM's CARD OF 'copyistlaw02.VectorLaws'. -/
def vectorLawsUptoCard : Claim7 := { stood := { row := vectorLawsUptoRow, standIns := [], harness := (true, "c0c0f519ef3bb02b3fa8fd0468baaec2ea67804ac8dc5b612ef849989ae8b9f5"), looks := true }, kinds := [], alts := [], laidByText := true, laidKinds := [.data, .data, .data], laidTests := true, laidLooks := .later }
def VectorLawsUptoCardSaid : Prop := Claim7.holds Tryd.pinned (.plain (OpenSpec.upto vectorLawsSpec)) vectorLawsUptoCard

/-- THE SECOND FORM's CARD OF 'copyistlaw02.VectorJoins'. -/
def vectorJoinsUptoCard : Claim7 := { stood := { row := vectorJoinsUptoRow, standIns := [], harness := (true, "c0c0f519ef3bb02b3fa8fd0468baaec2ea67804ac8dc5b612ef849989ae8b9f5"), looks := true }, kinds := [], alts := [], laidByText := true, laidKinds := [.data, .data, .data], laidTests := true, laidLooks := .later }
def VectorJoinsUptoCardSaid : Prop := Claim7.holds Tryd.pinned (.plain (OpenSpec.upto vectorJoinsSpec)) vectorJoinsUptoCard

/-- THE SECOND FORM's CARD OF 'copyistlaw02.VectorStands'. -/
def vectorStandsUptoCard : Claim7 := { stood := { row := vectorStandsUptoRow, standIns := [], harness := (true, "c0c0f519ef3bb02b3fa8fd0468baaec2ea67804ac8dc5b612ef849989ae8b9f5"), looks := true }, kinds := [], alts := [], laidByText := true, laidKinds := [.data, .data, .data], laidTests := true, laidLooks := .later }
def VectorStandsUptoCardSaid : Prop := Claim7.holds Tryd.pinned (.plain (OpenSpec.upto vectorStandsSpec)) vectorStandsUptoCard

/-- THE SECOND FORM's CARD OF 'copyistlaw01.IdentShows'. -/
def identShowsUptoCard : Claim7 := { stood := { row := identShowsUptoRow, standIns := [], harness := (true, "c0c0f519ef3bb02b3fa8fd0468baaec2ea67804ac8dc5b612ef849989ae8b9f5"), looks := true }, kinds := [], alts := [], laidByText := true, laidKinds := [.data, .data, .data, .sentinel, .sentinel], laidTests := true, laidLooks := .later }
def IdentShowsUptoCardSaid : Prop := Claim7.holds Tryd.pinned (.plain (OpenSpec.upto identShowsSpec)) identShowsUptoCard
end Rows
end Go.Proofs.YtnfcjdgmhbhecaaDoor
