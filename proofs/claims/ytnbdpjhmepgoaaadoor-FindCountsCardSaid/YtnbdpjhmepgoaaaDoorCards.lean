/-
  DERIVED. GIVEN WITH THE SEED: THE CARDS: each row of YtnbdpjhmepgoaaaDoorRows.lean that lists a variable, with what it lists TIED to the program's text (the seventh form; the later family's looks); each row that meets fmt, with fmt's text TOLD by the authors' own Lean function (tested against real Go, not proved from fmt's source: count such statements apart). THE CARD IS WHAT COUNTS. Prove the row's statement (the work); the ties are given (YtnbdpjhmepgoaaaDoorTie.lean); close each card by the builder's one call (the guide's Derived/Test/ToyasCard.lean, 'card_holds'). Laid BY PROGRAM, IN A SANDBOX (cutbox-door.mjs). By AI agents, Wed Nov 11 2026. No macro, syntax, notation, axiom, sorry.
-/
import Derived.Test.YtnbdpjhmepgoaaaDoorRows
import GoSem.ClaimSeven
namespace Go.Proofs.YtnbdpjhmepgoaaaDoor
namespace Rows

/-- THE TIED CARD OF 'joinerylaw19.FindStays'. -/
def findStaysCard : Claim7 := { stood := { row := findStaysRow, standIns := [], harness := (true, "98f55bc73c40f59eb587b47ea2a39a2fbba46cd45706e046767b4f2a4607ed66"), looks := true }, kinds := [], alts := [], laidByText := true, laidKinds := [.data], laidTests := true, laidLooks := .later }
def FindStaysCardSaid : Prop := Claim7.holds Tryd.pinned (.plain (OpenSpec.ofChange findStaysSpec)) findStaysCard

/-- THE TIED CARD OF 'joinerylaw19.FindFirst'. -/
def findFirstCard : Claim7 := { stood := { row := findFirstRow, standIns := [], harness := (true, "98f55bc73c40f59eb587b47ea2a39a2fbba46cd45706e046767b4f2a4607ed66"), looks := true }, kinds := [], alts := [], laidByText := true, laidKinds := [.data], laidTests := true, laidLooks := .later }
def FindFirstCardSaid : Prop := Claim7.holds Tryd.pinned (.plain (OpenSpec.ofChange findFirstSpec)) findFirstCard

/-- THE TIED CARD OF 'joinerylaw19.FindSelf'. -/
def findSelfCard : Claim7 := { stood := { row := findSelfRow, standIns := [], harness := (true, "98f55bc73c40f59eb587b47ea2a39a2fbba46cd45706e046767b4f2a4607ed66"), looks := true }, kinds := [], alts := [], laidByText := true, laidKinds := [.data], laidTests := true, laidLooks := .later }
def FindSelfCardSaid : Prop := Claim7.holds Tryd.pinned (.plain (OpenSpec.ofChange findSelfSpec)) findSelfCard

/-- THE TIED CARD OF 'joinerylaw19.FindCounts'. -/
def findCountsCard : Claim7 := { stood := { row := findCountsRow, standIns := [], harness := (true, "98f55bc73c40f59eb587b47ea2a39a2fbba46cd45706e046767b4f2a4607ed66"), looks := true }, kinds := [], alts := [], laidByText := true, laidKinds := [.data], laidTests := true, laidLooks := .later }
def FindCountsCardSaid : Prop := Claim7.holds Tryd.pinned (.plain (OpenSpec.ofChange findCountsSpec)) findCountsCard

/-- THE SECOND FORM's CARD OF 'joinerylaw19.FindStays'. -/
def findStaysUptoCard : Claim7 := { stood := { row := findStaysUptoRow, standIns := [], harness := (true, "98f55bc73c40f59eb587b47ea2a39a2fbba46cd45706e046767b4f2a4607ed66"), looks := true }, kinds := [], alts := [], laidByText := true, laidKinds := [.data], laidTests := true, laidLooks := .later }
def FindStaysUptoCardSaid : Prop := Claim7.holds Tryd.pinned (.plain (OpenSpec.upto findStaysSpec)) findStaysUptoCard

/-- THE SECOND FORM's CARD OF 'joinerylaw19.FindFirst'. -/
def findFirstUptoCard : Claim7 := { stood := { row := findFirstUptoRow, standIns := [], harness := (true, "98f55bc73c40f59eb587b47ea2a39a2fbba46cd45706e046767b4f2a4607ed66"), looks := true }, kinds := [], alts := [], laidByText := true, laidKinds := [.data], laidTests := true, laidLooks := .later }
def FindFirstUptoCardSaid : Prop := Claim7.holds Tryd.pinned (.plain (OpenSpec.upto findFirstSpec)) findFirstUptoCard

/-- THE SECOND FORM's CARD OF 'joinerylaw19.FindSelf'. -/
def findSelfUptoCard : Claim7 := { stood := { row := findSelfUptoRow, standIns := [], harness := (true, "98f55bc73c40f59eb587b47ea2a39a2fbba46cd45706e046767b4f2a4607ed66"), looks := true }, kinds := [], alts := [], laidByText := true, laidKinds := [.data], laidTests := true, laidLooks := .later }
def FindSelfUptoCardSaid : Prop := Claim7.holds Tryd.pinned (.plain (OpenSpec.upto findSelfSpec)) findSelfUptoCard

/-- THE SECOND FORM's CARD OF 'joinerylaw19.FindCounts'. -/
def findCountsUptoCard : Claim7 := { stood := { row := findCountsUptoRow, standIns := [], harness := (true, "98f55bc73c40f59eb587b47ea2a39a2fbba46cd45706e046767b4f2a4607ed66"), looks := true }, kinds := [], alts := [], laidByText := true, laidKinds := [.data], laidTests := true, laidLooks := .later }
def FindCountsUptoCardSaid : Prop := Claim7.holds Tryd.pinned (.plain (OpenSpec.upto findCountsSpec)) findCountsUptoCard
end Rows
end Go.Proofs.YtnbdpjhmepgoaaaDoor
