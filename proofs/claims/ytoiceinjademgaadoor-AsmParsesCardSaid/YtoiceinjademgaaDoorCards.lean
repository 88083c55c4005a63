/-
  DERIVED. GIVEN WITH THE SEED: THE CARDS: each row of YtoiceinjademgaaDoorRows.lean that lists a variable, with what it lists TIED to the program's text (the seventh form; the later family's looks); each row that meets fmt, with fmt's text TOLD by the authors' own Lean function (tested against real Go, not proved from fmt's source: count such statements apart). THE CARD IS WHAT COUNTS. Prove the row's statement (the work); the ties are given (YtoiceinjademgaaDoorTie.lean); close each card by the builder's one call (the guide's Derived/Test/ToyasCard.lean, 'card_holds'). Laid BY PROGRAM, IN A SANDBOX (cutbox-door.mjs). By AI agents, Wed Nov 11 2026. No macro, syntax, notation, axiom, sorry.
-/
import Derived.Test.YtoiceinjademgaaDoorRows
import GoSem.ClaimSeven
namespace Go.Proofs.YtoiceinjademgaaDoor
namespace Rows

/-- THE TIED CARD OF 'joinerylaw04.AsmChecks'. -/
def asmChecksCard : Claim7 := { stood := { row := asmChecksRow, standIns := [], harness := (true, "65a70772e3f582673ffc292e02c5536b159eae890dd58bce1e5979f24075c7c7"), looks := false }, kinds := [], alts := [], laidByText := true, laidKinds := [.data], laidTests := true, laidLooks := .later }
def AsmChecksCardSaid : Prop := Claim7.holds Tryd.pinned (.plain (OpenSpec.ofChange asmChecksSpec)) asmChecksCard

/-- THE TIED CARD OF 'joinerylaw04.AsmPrints'. -/
def asmPrintsCard : Claim7 := { stood := { row := asmPrintsRow, standIns := [], harness := (true, "65a70772e3f582673ffc292e02c5536b159eae890dd58bce1e5979f24075c7c7"), looks := false }, kinds := [], alts := [], laidByText := true, laidKinds := [.data], laidTests := true, laidLooks := .later }
def AsmPrintsCardSaid : Prop := Claim7.holds Tryd.pinned (.plain (OpenSpec.ofChange asmPrintsSpec)) asmPrintsCard

/-- THE TIED CARD OF 'joinerylaw04.AsmParses'. -/
def asmParsesCard : Claim7 := { stood := { row := asmParsesRow, standIns := [], harness := (true, "65a70772e3f582673ffc292e02c5536b159eae890dd58bce1e5979f24075c7c7"), looks := false }, kinds := [], alts := [], laidByText := true, laidKinds := [.data], laidTests := true, laidLooks := .later }
def AsmParsesCardSaid : Prop := Claim7.holds Tryd.pinned (.plain (OpenSpec.ofChange asmParsesSpec)) asmParsesCard

/-- THE TIED CARD OF 'joinerylaw04.AsmBack'. -/
def asmBackCard : Claim7 := { stood := { row := asmBackRow, standIns := [], harness := (true, "65a70772e3f582673ffc292e02c5536b159eae890dd58bce1e5979f24075c7c7"), looks := false }, kinds := [], alts := [], laidByText := true, laidKinds := [.data], laidTests := true, laidLooks := .later }
def AsmBackCardSaid : Prop := Claim7.holds Tryd.pinned (.plain (OpenSpec.ofChange asmBackSpec)) asmBackCard

/-- THE TIED CARD OF 'joinerylaw04.AsmApart'. -/
def asmApartCard : Claim7 := { stood := { row := asmApartRow, standIns := [], harness := (true, "65a70772e3f582673ffc292e02c5536b159eae890dd58bce1e5979f24075c7c7"), looks := false }, kinds := [], alts := [], laidByText := true, laidKinds := [.data], laidTests := true, laidLooks := .later }
def AsmApartCardSaid : Prop := Claim7.holds Tryd.pinned (.plain (OpenSpec.ofChange asmApartSpec)) asmApartCard

/-- THE TIED CARD OF 'joinerylaw04.AsmCut'. -/
def asmCutCard : Claim7 := { stood := { row := asmCutRow, standIns := [], harness := (true, "65a70772e3f582673ffc292e02c5536b159eae890dd58bce1e5979f24075c7c7"), looks := false }, kinds := [], alts := [], laidByText := true, laidKinds := [.data], laidTests := true, laidLooks := .later }
def AsmCutCardSaid : Prop := Claim7.holds Tryd.pinned (.plain (OpenSpec.ofChange asmCutSpec)) asmCutCard

/-- THE TIED CARD OF 'joinerylaw04.AsmBehind'. -/
def asmBehindCard : Claim7 := { stood := { row := asmBehindRow, standIns := [], harness := (true, "65a70772e3f582673ffc292e02c5536b159eae890dd58bce1e5979f24075c7c7"), looks := false }, kinds := [], alts := [], laidByText := true, laidKinds := [.data], laidTests := true, laidLooks := .later }
def AsmBehindCardSaid : Prop := Claim7.holds Tryd.pinned (.plain (OpenSpec.ofChange asmBehindSpec)) asmBehindCard

/-- THE SECOND FORM's CARD OF 'joinerylaw04.AsmChecks'. -/
def asmChecksUptoCard : Claim7 := { stood := { row := asmChecksUptoRow, standIns := [], harness := (true, "65a70772e3f582673ffc292e02c5536b159eae890dd58bce1e5979f24075c7c7"), looks := false }, kinds := [], alts := [], laidByText := true, laidKinds := [.data], laidTests := true, laidLooks := .later }
def AsmChecksUptoCardSaid : Prop := Claim7.holds Tryd.pinned (.plain (OpenSpec.upto asmChecksSpec)) asmChecksUptoCard

/-- THE SECOND FORM's CARD OF 'joinerylaw04.AsmPrints'. -/
def asmPrintsUptoCard : Claim7 := { stood := { row := asmPrintsUptoRow, standIns := [], harness := (true, "65a70772e3f582673ffc292e02c5536b159eae890dd58bce1e5979f24075c7c7"), looks := false }, kinds := [], alts := [], laidByText := true, laidKinds := [.data], laidTests := true, laidLooks := .later }
def AsmPrintsUptoCardSaid : Prop := Claim7.holds Tryd.pinned (.plain (OpenSpec.upto asmPrintsSpec)) asmPrintsUptoCard

/-- THE SECOND FORM's CARD OF 'joinerylaw04.AsmParses'. -/
def asmParsesUptoCard : Claim7 := { stood := { row := asmParsesUptoRow, standIns := [], harness := (true, "65a70772e3f582673ffc292e02c5536b159eae890dd58bce1e5979f24075c7c7"), looks := false }, kinds := [], alts := [], laidByText := true, laidKinds := [.data], laidTests := true, laidLooks := .later }
def AsmParsesUptoCardSaid : Prop := Claim7.holds Tryd.pinned (.plain (OpenSpec.upto asmParsesSpec)) asmParsesUptoCard

/-- THE SECOND FORM's CARD OF 'joinerylaw04.AsmBack'. -/
def asmBackUptoCard : Claim7 := { stood := { row := asmBackUptoRow, standIns := [], harness := (true, "65a70772e3f582673ffc292e02c5536b159eae890dd58bce1e5979f24075c7c7"), looks := false }, kinds := [], alts := [], laidByText := true, laidKinds := [.data], laidTests := true, laidLooks := .later }
def AsmBackUptoCardSaid : Prop := Claim7.holds Tryd.pinned (.plain (OpenSpec.upto asmBackSpec)) asmBackUptoCard

/-- THE SECOND FORM's CARD OF 'joinerylaw04.AsmApart'. -/
def asmApartUptoCard : Claim7 := { stood := { row := asmApartUptoRow, standIns := [], harness := (true, "65a70772e3f582673ffc292e02c5536b159eae890dd58bce1e5979f24075c7c7"), looks := false }, kinds := [], alts := [], laidByText := true, laidKinds := [.data], laidTests := true, laidLooks := .later }
def AsmApartUptoCardSaid : Prop := Claim7.holds Tryd.pinned (.plain (OpenSpec.upto asmApartSpec)) asmApartUptoCard

/-- THE SECOND FORM's CARD OF 'joinerylaw04.AsmCut'. -/
def asmCutUptoCard : Claim7 := { stood := { row := asmCutUptoRow, standIns := [], harness := (true, "65a70772e3f582673ffc292e02c5536b159eae890dd58bce1e5979f24075c7c7"), looks := false }, kinds := [], alts := [], laidByText := true, laidKinds := [.data], laidTests := true, laidLooks := .later }
def AsmCutUptoCardSaid : Prop := Claim7.holds Tryd.pinned (.plain (OpenSpec.upto asmCutSpec)) asmCutUptoCard

/-- THE SECOND FORM's CARD OF 'joinerylaw04.AsmBehind'. -/
def asmBehindUptoCard : Claim7 := { stood := { row := asmBehindUptoRow, standIns := [], harness := (true, "65a70772e3f582673ffc292e02c5536b159eae890dd58bce1e5979f24075c7c7"), looks := false }, kinds := [], alts := [], laidByText := true, laidKinds := [.data], laidTests := true, laidLooks := .later }
def AsmBehindUptoCardSaid : Prop := Claim7.holds Tryd.pinned (.plain (OpenSpec.upto asmBehindSpec)) asmBehindUptoCard
end Rows
end Go.Proofs.YtoiceinjademgaaDoor
