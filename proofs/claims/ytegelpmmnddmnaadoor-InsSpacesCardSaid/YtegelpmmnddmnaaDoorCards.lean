/-
  DERIVED. GIVEN WITH THE SEED: THE CARDS: each row of YtegelpmmnddmnaaDoorRows.lean that lists a variable, with what it lists TIED to the program's text (the seventh form; the later family's looks); each row that meets fmt, with fmt's text TOLD by the authors' own Lean function (tested against real Go, not proved from fmt's source: count such statements apart). THE CARD IS WHAT COUNTS. Prove the row's statement (the work); the ties are given (YtegelpmmnddmnaaDoorTie.lean); close each card by the builder's one call (the guide's Derived/Test/ToyasCard.lean, 'card_holds'). Laid BY PROGRAM, IN A SANDBOX (cutbox-door.mjs). By AI agents, Wed Nov 11 2026. No macro, syntax, notation, axiom, sorry.
-/
import Derived.Test.YtegelpmmnddmnaaDoorRows
import GoSem.ClaimSeven
namespace Go.Proofs.YtegelpmmnddmnaaDoor
namespace Rows

/-- THE TIED CARD OF 'joinerylaw03.InsChecks'. -/
def insChecksCard : Claim7 := { stood := { row := insChecksRow, standIns := [], harness := (true, "ea436687d0deeacd77ca67d6f208ce3885f48303042962dd21798ef3c4b6c9cf"), looks := false }, kinds := [], alts := [], laidByText := true, laidKinds := [.data], laidTests := true, laidLooks := .later }
def InsChecksCardSaid : Prop := Claim7.holds Tryd.pinned (.plain (OpenSpec.ofChange insChecksSpec)) insChecksCard

/-- THE TIED CARD OF 'joinerylaw03.InsPrints'. -/
def insPrintsCard : Claim7 := { stood := { row := insPrintsRow, standIns := [], harness := (true, "ea436687d0deeacd77ca67d6f208ce3885f48303042962dd21798ef3c4b6c9cf"), looks := false }, kinds := [], alts := [], laidByText := true, laidKinds := [.data], laidTests := true, laidLooks := .later }
def InsPrintsCardSaid : Prop := Claim7.holds Tryd.pinned (.plain (OpenSpec.ofChange insPrintsSpec)) insPrintsCard

/-- THE TIED CARD OF 'joinerylaw03.InsParses'. -/
def insParsesCard : Claim7 := { stood := { row := insParsesRow, standIns := [], harness := (true, "ea436687d0deeacd77ca67d6f208ce3885f48303042962dd21798ef3c4b6c9cf"), looks := false }, kinds := [], alts := [], laidByText := true, laidKinds := [.data], laidTests := true, laidLooks := .later }
def InsParsesCardSaid : Prop := Claim7.holds Tryd.pinned (.plain (OpenSpec.ofChange insParsesSpec)) insParsesCard

/-- THE TIED CARD OF 'joinerylaw03.InsTells'. -/
def insTellsCard : Claim7 := { stood := { row := insTellsRow, standIns := [], harness := (true, "ea436687d0deeacd77ca67d6f208ce3885f48303042962dd21798ef3c4b6c9cf"), looks := false }, kinds := [], alts := [], laidByText := true, laidKinds := [.data], laidTests := true, laidLooks := .later }
def InsTellsCardSaid : Prop := Claim7.holds Tryd.pinned (.plain (OpenSpec.ofChange insTellsSpec)) insTellsCard

/-- THE TIED CARD OF 'joinerylaw03.InsBack'. -/
def insBackCard : Claim7 := { stood := { row := insBackRow, standIns := [], harness := (true, "ea436687d0deeacd77ca67d6f208ce3885f48303042962dd21798ef3c4b6c9cf"), looks := false }, kinds := [], alts := [], laidByText := true, laidKinds := [.data], laidTests := true, laidLooks := .later }
def InsBackCardSaid : Prop := Claim7.holds Tryd.pinned (.plain (OpenSpec.ofChange insBackSpec)) insBackCard

/-- THE TIED CARD OF 'joinerylaw03.InsApart'. -/
def insApartCard : Claim7 := { stood := { row := insApartRow, standIns := [], harness := (true, "ea436687d0deeacd77ca67d6f208ce3885f48303042962dd21798ef3c4b6c9cf"), looks := false }, kinds := [], alts := [], laidByText := true, laidKinds := [.data], laidTests := true, laidLooks := .later }
def InsApartCardSaid : Prop := Claim7.holds Tryd.pinned (.plain (OpenSpec.ofChange insApartSpec)) insApartCard

/-- THE TIED CARD OF 'joinerylaw03.InsGrows'. -/
def insGrowsCard : Claim7 := { stood := { row := insGrowsRow, standIns := [], harness := (true, "ea436687d0deeacd77ca67d6f208ce3885f48303042962dd21798ef3c4b6c9cf"), looks := false }, kinds := [], alts := [], laidByText := true, laidKinds := [.data], laidTests := true, laidLooks := .later }
def InsGrowsCardSaid : Prop := Claim7.holds Tryd.pinned (.plain (OpenSpec.ofChange insGrowsSpec)) insGrowsCard

/-- THE TIED CARD OF 'joinerylaw03.InsPlaces'. -/
def insPlacesCard : Claim7 := { stood := { row := insPlacesRow, standIns := [], harness := (true, "ea436687d0deeacd77ca67d6f208ce3885f48303042962dd21798ef3c4b6c9cf"), looks := false }, kinds := [], alts := [], laidByText := true, laidKinds := [.data], laidTests := true, laidLooks := .later }
def InsPlacesCardSaid : Prop := Claim7.holds Tryd.pinned (.plain (OpenSpec.ofChange insPlacesSpec)) insPlacesCard

/-- THE TIED CARD OF 'joinerylaw03.InsSpaces'. -/
def insSpacesCard : Claim7 := { stood := { row := insSpacesRow, standIns := [], harness := (true, "ea436687d0deeacd77ca67d6f208ce3885f48303042962dd21798ef3c4b6c9cf"), looks := false }, kinds := [], alts := [], laidByText := true, laidKinds := [.data], laidTests := true, laidLooks := .later }
def InsSpacesCardSaid : Prop := Claim7.holds Tryd.pinned (.plain (OpenSpec.ofChange insSpacesSpec)) insSpacesCard

/-- THE SECOND FORM's CARD OF 'joinerylaw03.InsChecks'. -/
def insChecksUptoCard : Claim7 := { stood := { row := insChecksUptoRow, standIns := [], harness := (true, "ea436687d0deeacd77ca67d6f208ce3885f48303042962dd21798ef3c4b6c9cf"), looks := false }, kinds := [], alts := [], laidByText := true, laidKinds := [.data], laidTests := true, laidLooks := .later }
def InsChecksUptoCardSaid : Prop := Claim7.holds Tryd.pinned (.plain (OpenSpec.upto insChecksSpec)) insChecksUptoCard

/-- THE SECOND FORM's CARD OF 'joinerylaw03.InsPrints'. -/
def insPrintsUptoCard : Claim7 := { stood := { row := insPrintsUptoRow, standIns := [], harness := (true, "ea436687d0deeacd77ca67d6f208ce3885f48303042962dd21798ef3c4b6c9cf"), looks := false }, kinds := [], alts := [], laidByText := true, laidKinds := [.data], laidTests := true, laidLooks := .later }
def InsPrintsUptoCardSaid : Prop := Claim7.holds Tryd.pinned (.plain (OpenSpec.upto insPrintsSpec)) insPrintsUptoCard

/-- THE SECOND FORM's CARD OF 'joinerylaw03.InsParses'. -/
def insParsesUptoCard : Claim7 := { stood := { row := insParsesUptoRow, standIns := [], harness := (true, "ea436687d0deeacd77ca67d6f208ce3885f48303042962dd21798ef3c4b6c9cf"), looks := false }, kinds := [], alts := [], laidByText := true, laidKinds := [.data], laidTests := true, laidLooks := .later }
def InsParsesUptoCardSaid : Prop := Claim7.holds Tryd.pinned (.plain (OpenSpec.upto insParsesSpec)) insParsesUptoCard

/-- THE SECOND FORM's CARD OF 'joinerylaw03.InsTells'. -/
def insTellsUptoCard : Claim7 := { stood := { row := insTellsUptoRow, standIns := [], harness := (true, "ea436687d0deeacd77ca67d6f208ce3885f48303042962dd21798ef3c4b6c9cf"), looks := false }, kinds := [], alts := [], laidByText := true, laidKinds := [.data], laidTests := true, laidLooks := .later }
def InsTellsUptoCardSaid : Prop := Claim7.holds Tryd.pinned (.plain (OpenSpec.upto insTellsSpec)) insTellsUptoCard

/-- THE SECOND FORM's CARD OF 'joinerylaw03.InsBack'. -/
def insBackUptoCard : Claim7 := { stood := { row := insBackUptoRow, standIns := [], harness := (true, "ea436687d0deeacd77ca67d6f208ce3885f48303042962dd21798ef3c4b6c9cf"), looks := false }, kinds := [], alts := [], laidByText := true, laidKinds := [.data], laidTests := true, laidLooks := .later }
def InsBackUptoCardSaid : Prop := Claim7.holds Tryd.pinned (.plain (OpenSpec.upto insBackSpec)) insBackUptoCard

/-- THE SECOND FORM's CARD OF 'joinerylaw03.InsApart'. -/
def insApartUptoCard : Claim7 := { stood := { row := insApartUptoRow, standIns := [], harness := (true, "ea436687d0deeacd77ca67d6f208ce3885f48303042962dd21798ef3c4b6c9cf"), looks := false }, kinds := [], alts := [], laidByText := true, laidKinds := [.data], laidTests := true, laidLooks := .later }
def InsApartUptoCardSaid : Prop := Claim7.holds Tryd.pinned (.plain (OpenSpec.upto insApartSpec)) insApartUptoCard

/-- THE SECOND FORM's CARD OF 'joinerylaw03.InsGrows'. -/
def insGrowsUptoCard : Claim7 := { stood := { row := insGrowsUptoRow, standIns := [], harness := (true, "ea436687d0deeacd77ca67d6f208ce3885f48303042962dd21798ef3c4b6c9cf"), looks := false }, kinds := [], alts := [], laidByText := true, laidKinds := [.data], laidTests := true, laidLooks := .later }
def InsGrowsUptoCardSaid : Prop := Claim7.holds Tryd.pinned (.plain (OpenSpec.upto insGrowsSpec)) insGrowsUptoCard

/-- THE SECOND FORM's CARD OF 'joinerylaw03.InsPlaces'. -/
def insPlacesUptoCard : Claim7 := { stood := { row := insPlacesUptoRow, standIns := [], harness := (true, "ea436687d0deeacd77ca67d6f208ce3885f48303042962dd21798ef3c4b6c9cf"), looks := false }, kinds := [], alts := [], laidByText := true, laidKinds := [.data], laidTests := true, laidLooks := .later }
def InsPlacesUptoCardSaid : Prop := Claim7.holds Tryd.pinned (.plain (OpenSpec.upto insPlacesSpec)) insPlacesUptoCard

/-- THE SECOND FORM's CARD OF 'joinerylaw03.InsSpaces'. -/
def insSpacesUptoCard : Claim7 := { stood := { row := insSpacesUptoRow, standIns := [], harness := (true, "ea436687d0deeacd77ca67d6f208ce3885f48303042962dd21798ef3c4b6c9cf"), looks := false }, kinds := [], alts := [], laidByText := true, laidKinds := [.data], laidTests := true, laidLooks := .later }
def InsSpacesUptoCardSaid : Prop := Claim7.holds Tryd.pinned (.plain (OpenSpec.upto insSpacesSpec)) insSpacesUptoCard
end Rows
end Go.Proofs.YtegelpmmnddmnaaDoor
