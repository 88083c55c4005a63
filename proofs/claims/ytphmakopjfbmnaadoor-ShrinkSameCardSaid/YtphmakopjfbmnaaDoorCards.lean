/-
  DERIVED. GIVEN WITH THE SEED: THE CARDS: each row of YtphmakopjfbmnaaDoorRows.lean that lists a variable, with what it lists TIED to the program's text (the seventh form; the later family's looks); each row that meets fmt, with fmt's text TOLD by the authors' own Lean function (tested against real Go, not proved from fmt's source: count such statements apart). THE CARD IS WHAT COUNTS. Prove the row's statement (the work); the ties are given (YtphmakopjfbmnaaDoorTie.lean); close each card by the builder's one call (the guide's Derived/Test/ToyasCard.lean, 'card_holds'). Laid BY PROGRAM, IN A SANDBOX (cutbox-door.mjs). By AI agents, Wed Nov 11 2026. No macro, syntax, notation, axiom, sorry.
-/
import Derived.Test.YtphmakopjfbmnaaDoorRows
import GoSem.ClaimSeven
namespace Go.Proofs.YtphmakopjfbmnaaDoor
namespace Rows

/-- THE TIED CARD OF 'joinerylaw20.ShrinkKeeps'. -/
def shrinkKeepsCard : Claim7 := { stood := { row := shrinkKeepsRow, standIns := [], harness := (true, "f854dd3417ba2f2a7343e98a86b3f6750c0905036c9cfb94aee39bbddbdf8749"), looks := true }, kinds := [], alts := [], laidByText := true, laidKinds := [.data], laidTests := true, laidLooks := .later }
def ShrinkKeepsCardSaid : Prop := Claim7.holds Tryd.pinned (.plain (OpenSpec.ofChange shrinkKeepsSpec)) shrinkKeepsCard

/-- THE TIED CARD OF 'joinerylaw20.ShrinkLeast'. -/
def shrinkLeastCard : Claim7 := { stood := { row := shrinkLeastRow, standIns := [], harness := (true, "f854dd3417ba2f2a7343e98a86b3f6750c0905036c9cfb94aee39bbddbdf8749"), looks := true }, kinds := [], alts := [], laidByText := true, laidKinds := [.data], laidTests := true, laidLooks := .later }
def ShrinkLeastCardSaid : Prop := Claim7.holds Tryd.pinned (.plain (OpenSpec.ofChange shrinkLeastSpec)) shrinkLeastCard

/-- THE TIED CARD OF 'joinerylaw20.ShrinkSwaps'. -/
def shrinkSwapsCard : Claim7 := { stood := { row := shrinkSwapsRow, standIns := [], harness := (true, "f854dd3417ba2f2a7343e98a86b3f6750c0905036c9cfb94aee39bbddbdf8749"), looks := true }, kinds := [], alts := [], laidByText := true, laidKinds := [.data], laidTests := true, laidLooks := .later }
def ShrinkSwapsCardSaid : Prop := Claim7.holds Tryd.pinned (.plain (OpenSpec.ofChange shrinkSwapsSpec)) shrinkSwapsCard

/-- THE TIED CARD OF 'joinerylaw20.ShrinkSame'. -/
def shrinkSameCard : Claim7 := { stood := { row := shrinkSameRow, standIns := [], harness := (true, "f854dd3417ba2f2a7343e98a86b3f6750c0905036c9cfb94aee39bbddbdf8749"), looks := true }, kinds := [], alts := [], laidByText := true, laidKinds := [.data], laidTests := true, laidLooks := .later }
def ShrinkSameCardSaid : Prop := Claim7.holds Tryd.pinned (.plain (OpenSpec.ofChange shrinkSameSpec)) shrinkSameCard

/-- THE SECOND FORM's CARD OF 'joinerylaw20.ShrinkKeeps'. -/
def shrinkKeepsUptoCard : Claim7 := { stood := { row := shrinkKeepsUptoRow, standIns := [], harness := (true, "f854dd3417ba2f2a7343e98a86b3f6750c0905036c9cfb94aee39bbddbdf8749"), looks := true }, kinds := [], alts := [], laidByText := true, laidKinds := [.data], laidTests := true, laidLooks := .later }
def ShrinkKeepsUptoCardSaid : Prop := Claim7.holds Tryd.pinned (.plain (OpenSpec.upto shrinkKeepsSpec)) shrinkKeepsUptoCard

/-- THE SECOND FORM's CARD OF 'joinerylaw20.ShrinkLeast'. -/
def shrinkLeastUptoCard : Claim7 := { stood := { row := shrinkLeastUptoRow, standIns := [], harness := (true, "f854dd3417ba2f2a7343e98a86b3f6750c0905036c9cfb94aee39bbddbdf8749"), looks := true }, kinds := [], alts := [], laidByText := true, laidKinds := [.data], laidTests := true, laidLooks := .later }
def ShrinkLeastUptoCardSaid : Prop := Claim7.holds Tryd.pinned (.plain (OpenSpec.upto shrinkLeastSpec)) shrinkLeastUptoCard

/-- THE SECOND FORM's CARD OF 'joinerylaw20.ShrinkSwaps'. -/
def shrinkSwapsUptoCard : Claim7 := { stood := { row := shrinkSwapsUptoRow, standIns := [], harness := (true, "f854dd3417ba2f2a7343e98a86b3f6750c0905036c9cfb94aee39bbddbdf8749"), looks := true }, kinds := [], alts := [], laidByText := true, laidKinds := [.data], laidTests := true, laidLooks := .later }
def ShrinkSwapsUptoCardSaid : Prop := Claim7.holds Tryd.pinned (.plain (OpenSpec.upto shrinkSwapsSpec)) shrinkSwapsUptoCard

/-- THE SECOND FORM's CARD OF 'joinerylaw20.ShrinkSame'. -/
def shrinkSameUptoCard : Claim7 := { stood := { row := shrinkSameUptoRow, standIns := [], harness := (true, "f854dd3417ba2f2a7343e98a86b3f6750c0905036c9cfb94aee39bbddbdf8749"), looks := true }, kinds := [], alts := [], laidByText := true, laidKinds := [.data], laidTests := true, laidLooks := .later }
def ShrinkSameUptoCardSaid : Prop := Claim7.holds Tryd.pinned (.plain (OpenSpec.upto shrinkSameSpec)) shrinkSameUptoCard
end Rows
end Go.Proofs.YtphmakopjfbmnaaDoor
