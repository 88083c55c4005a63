/-
  DERIVED. GIVEN WITH THE SEED: THE CARDS: each row of YtgdopmhgmpkahaaDoorRows.lean that lists a variable, with what it lists TIED to the program's text (the seventh form; the later family's looks); each row that meets fmt, with fmt's text TOLD by the authors' own Lean function (tested against real Go, not proved from fmt's source: count such statements apart). THE CARD IS WHAT COUNTS. Prove the row's statement (the work); the ties are given (YtgdopmhgmpkahaaDoorTie.lean); close each card by the builder's one call (the guide's Derived/Test/ToyasCard.lean, 'card_holds'). Laid BY PROGRAM, IN A SANDBOX (cutbox-door.mjs). By AI agents, Wed Nov 11 2026. No macro, syntax, notation, axiom, sorry.
-/
import Derived.Test.YtgdopmhgmpkahaaDoorRows
import GoSem.ClaimSeven
namespace Go.Proofs.YtgdopmhgmpkahaaDoor
namespace Rows

/-- THE TIED CARD OF 'joinerylaw23.AllocSpills'. -/
def allocSpillsCard : Claim7 := { stood := { row := allocSpillsRow, standIns := [], harness := (true, "32cd7f34be1f3b1009565b02ab8f35c95574080d302c1bea14865de20bc3ab13"), looks := true }, kinds := [], alts := [], laidByText := true, laidKinds := [.data], laidTests := true, laidLooks := .later }
def AllocSpillsCardSaid : Prop := Claim7.holds Tryd.pinned (.plain (OpenSpec.ofChange allocSpillsSpec)) allocSpillsCard

/-- THE TIED CARD OF 'joinerylaw23.AllocPuts'. -/
def allocPutsCard : Claim7 := { stood := { row := allocPutsRow, standIns := [], harness := (true, "32cd7f34be1f3b1009565b02ab8f35c95574080d302c1bea14865de20bc3ab13"), looks := true }, kinds := [], alts := [], laidByText := true, laidKinds := [.data], laidTests := true, laidLooks := .later }
def AllocPutsCardSaid : Prop := Claim7.holds Tryd.pinned (.plain (OpenSpec.ofChange allocPutsSpec)) allocPutsCard

/-- THE TIED CARD OF 'joinerylaw23.AllocCounts'. -/
def allocCountsCard : Claim7 := { stood := { row := allocCountsRow, standIns := [], harness := (true, "32cd7f34be1f3b1009565b02ab8f35c95574080d302c1bea14865de20bc3ab13"), looks := true }, kinds := [], alts := [], laidByText := true, laidKinds := [.data], laidTests := true, laidLooks := .later }
def AllocCountsCardSaid : Prop := Claim7.holds Tryd.pinned (.plain (OpenSpec.ofChange allocCountsSpec)) allocCountsCard

/-- THE TIED CARD OF 'joinerylaw23.AllocTwice'. -/
def allocTwiceCard : Claim7 := { stood := { row := allocTwiceRow, standIns := [], harness := (true, "32cd7f34be1f3b1009565b02ab8f35c95574080d302c1bea14865de20bc3ab13"), looks := true }, kinds := [], alts := [], laidByText := true, laidKinds := [.data], laidTests := true, laidLooks := .later }
def AllocTwiceCardSaid : Prop := Claim7.holds Tryd.pinned (.plain (OpenSpec.ofChange allocTwiceSpec)) allocTwiceCard

/-- THE TIED CARD OF 'joinerylaw23.AllocSame'. -/
def allocSameCard : Claim7 := { stood := { row := allocSameRow, standIns := [], harness := (true, "32cd7f34be1f3b1009565b02ab8f35c95574080d302c1bea14865de20bc3ab13"), looks := true }, kinds := [], alts := [], laidByText := true, laidKinds := [.data, .data], laidTests := true, laidLooks := .later }
def AllocSameCardSaid : Prop := Claim7.holds Tryd.pinned (.plain (OpenSpec.ofChange allocSameSpec)) allocSameCard

/-- THE SECOND FORM's CARD OF 'joinerylaw23.AllocSpills'. -/
def allocSpillsUptoCard : Claim7 := { stood := { row := allocSpillsUptoRow, standIns := [], harness := (true, "32cd7f34be1f3b1009565b02ab8f35c95574080d302c1bea14865de20bc3ab13"), looks := true }, kinds := [], alts := [], laidByText := true, laidKinds := [.data], laidTests := true, laidLooks := .later }
def AllocSpillsUptoCardSaid : Prop := Claim7.holds Tryd.pinned (.plain (OpenSpec.upto allocSpillsSpec)) allocSpillsUptoCard

/-- THE SECOND FORM's CARD OF 'joinerylaw23.AllocPuts'. -/
def allocPutsUptoCard : Claim7 := { stood := { row := allocPutsUptoRow, standIns := [], harness := (true, "32cd7f34be1f3b1009565b02ab8f35c95574080d302c1bea14865de20bc3ab13"), looks := true }, kinds := [], alts := [], laidByText := true, laidKinds := [.data], laidTests := true, laidLooks := .later }
def AllocPutsUptoCardSaid : Prop := Claim7.holds Tryd.pinned (.plain (OpenSpec.upto allocPutsSpec)) allocPutsUptoCard

/-- THE SECOND FORM's CARD OF 'joinerylaw23.AllocCounts'. -/
def allocCountsUptoCard : Claim7 := { stood := { row := allocCountsUptoRow, standIns := [], harness := (true, "32cd7f34be1f3b1009565b02ab8f35c95574080d302c1bea14865de20bc3ab13"), looks := true }, kinds := [], alts := [], laidByText := true, laidKinds := [.data], laidTests := true, laidLooks := .later }
def AllocCountsUptoCardSaid : Prop := Claim7.holds Tryd.pinned (.plain (OpenSpec.upto allocCountsSpec)) allocCountsUptoCard

/-- THE SECOND FORM's CARD OF 'joinerylaw23.AllocTwice'. -/
def allocTwiceUptoCard : Claim7 := { stood := { row := allocTwiceUptoRow, standIns := [], harness := (true, "32cd7f34be1f3b1009565b02ab8f35c95574080d302c1bea14865de20bc3ab13"), looks := true }, kinds := [], alts := [], laidByText := true, laidKinds := [.data], laidTests := true, laidLooks := .later }
def AllocTwiceUptoCardSaid : Prop := Claim7.holds Tryd.pinned (.plain (OpenSpec.upto allocTwiceSpec)) allocTwiceUptoCard

/-- THE SECOND FORM's CARD OF 'joinerylaw23.AllocSame'. -/
def allocSameUptoCard : Claim7 := { stood := { row := allocSameUptoRow, standIns := [], harness := (true, "32cd7f34be1f3b1009565b02ab8f35c95574080d302c1bea14865de20bc3ab13"), looks := true }, kinds := [], alts := [], laidByText := true, laidKinds := [.data, .data], laidTests := true, laidLooks := .later }
def AllocSameUptoCardSaid : Prop := Claim7.holds Tryd.pinned (.plain (OpenSpec.upto allocSameSpec)) allocSameUptoCard
end Rows
end Go.Proofs.YtgdopmhgmpkahaaDoor
