/-
  DERIVED. GIVEN WITH THE SEED: THE CARDS: each row of YtbkbehkjndmabaaDoorRows.lean that lists a variable, with what it lists TIED to the program's text (the seventh form; the later family's looks); each row that meets fmt, with fmt's text TOLD by the authors' own Lean function (tested against real Go, not proved from fmt's source: count such statements apart). THE CARD IS WHAT COUNTS. Prove the row's statement (the work); the ties are given (YtbkbehkjndmabaaDoorTie.lean); close each card by the builder's one call (the guide's Derived/Test/ToyasCard.lean, 'card_holds'). Laid BY PROGRAM, IN A SANDBOX (cutbox-door.mjs). By AI agents, Wed Nov 11 2026. No macro, syntax, notation, axiom, sorry.
-/
import Derived.Test.YtbkbehkjndmabaaDoorRows
import GoSem.ClaimSeven
namespace Go.Proofs.YtbkbehkjndmabaaDoor
namespace Rows

/-- THE TIED CARD OF 'joinerylaw07.StepDoes'. -/
def stepDoesCard : Claim7 := { stood := { row := stepDoesRow, standIns := [], harness := (true, "bfd71dfb10269e8ba6e027be74d69a4e50b0edb49cced56766909c0e9f3902d6"), looks := false }, kinds := [], alts := [], laidByText := true, laidKinds := [.data], laidTests := true, laidLooks := .later }
def StepDoesCardSaid : Prop := Claim7.holds Tryd.pinned (.plain (OpenSpec.ofChange stepDoesSpec)) stepDoesCard

/-- THE TIED CARD OF 'joinerylaw07.StepRight'. -/
def stepRightCard : Claim7 := { stood := { row := stepRightRow, standIns := [], harness := (true, "bfd71dfb10269e8ba6e027be74d69a4e50b0edb49cced56766909c0e9f3902d6"), looks := false }, kinds := [], alts := [], laidByText := true, laidKinds := [.data], laidTests := true, laidLooks := .later }
def StepRightCardSaid : Prop := Claim7.holds Tryd.pinned (.plain (OpenSpec.ofChange stepRightSpec)) stepRightCard

/-- THE TIED CARD OF 'joinerylaw07.StepMoves'. -/
def stepMovesCard : Claim7 := { stood := { row := stepMovesRow, standIns := [], harness := (true, "bfd71dfb10269e8ba6e027be74d69a4e50b0edb49cced56766909c0e9f3902d6"), looks := false }, kinds := [], alts := [], laidByText := true, laidKinds := [.data], laidTests := true, laidLooks := .later }
def StepMovesCardSaid : Prop := Claim7.holds Tryd.pinned (.plain (OpenSpec.ofChange stepMovesSpec)) stepMovesCard

/-- THE TIED CARD OF 'joinerylaw07.StepKeeps'. -/
def stepKeepsCard : Claim7 := { stood := { row := stepKeepsRow, standIns := [], harness := (true, "bfd71dfb10269e8ba6e027be74d69a4e50b0edb49cced56766909c0e9f3902d6"), looks := false }, kinds := [], alts := [], laidByText := true, laidKinds := [.data], laidTests := true, laidLooks := .later }
def StepKeepsCardSaid : Prop := Claim7.holds Tryd.pinned (.plain (OpenSpec.ofChange stepKeepsSpec)) stepKeepsCard

/-- THE TIED CARD OF 'joinerylaw07.StepAnswers'. -/
def stepAnswersCard : Claim7 := { stood := { row := stepAnswersRow, standIns := [], harness := (true, "bfd71dfb10269e8ba6e027be74d69a4e50b0edb49cced56766909c0e9f3902d6"), looks := false }, kinds := [], alts := [], laidByText := true, laidKinds := [.data], laidTests := true, laidLooks := .later }
def StepAnswersCardSaid : Prop := Claim7.holds Tryd.pinned (.plain (OpenSpec.ofChange stepAnswersSpec)) stepAnswersCard

/-- THE TIED CARD OF 'joinerylaw07.StepHeaps'. -/
def stepHeapsCard : Claim7 := { stood := { row := stepHeapsRow, standIns := [], harness := (true, "bfd71dfb10269e8ba6e027be74d69a4e50b0edb49cced56766909c0e9f3902d6"), looks := false }, kinds := [], alts := [], laidByText := true, laidKinds := [.data], laidTests := true, laidLooks := .later }
def StepHeapsCardSaid : Prop := Claim7.holds Tryd.pinned (.plain (OpenSpec.ofChange stepHeapsSpec)) stepHeapsCard

/-- THE TIED CARD OF 'joinerylaw08.RunRuns'. -/
def runRunsCard : Claim7 := { stood := { row := runRunsRow, standIns := [], harness := (true, "bfd71dfb10269e8ba6e027be74d69a4e50b0edb49cced56766909c0e9f3902d6"), looks := false }, kinds := [], alts := [], laidByText := true, laidKinds := [.data], laidTests := true, laidLooks := .later }
def RunRunsCardSaid : Prop := Claim7.holds Tryd.pinned (.plain (OpenSpec.ofChange runRunsSpec)) runRunsCard

/-- THE TIED CARD OF 'joinerylaw08.RunGrows'. -/
def runGrowsCard : Claim7 := { stood := { row := runGrowsRow, standIns := [], harness := (true, "bfd71dfb10269e8ba6e027be74d69a4e50b0edb49cced56766909c0e9f3902d6"), looks := false }, kinds := [], alts := [], laidByText := true, laidKinds := [.data], laidTests := true, laidLooks := .later }
def RunGrowsCardSaid : Prop := Claim7.holds Tryd.pinned (.plain (OpenSpec.ofChange runGrowsSpec)) runGrowsCard

/-- THE TIED CARD OF 'joinerylaw08.RunGoes'. -/
def runGoesCard : Claim7 := { stood := { row := runGoesRow, standIns := [], harness := (true, "bfd71dfb10269e8ba6e027be74d69a4e50b0edb49cced56766909c0e9f3902d6"), looks := false }, kinds := [], alts := [], laidByText := true, laidKinds := [.data], laidTests := true, laidLooks := .later }
def RunGoesCardSaid : Prop := Claim7.holds Tryd.pinned (.plain (OpenSpec.ofChange runGoesSpec)) runGoesCard

/-- THE TIED CARD OF 'joinerylaw08.RunNone'. -/
def runNoneCard : Claim7 := { stood := { row := runNoneRow, standIns := [], harness := (true, "bfd71dfb10269e8ba6e027be74d69a4e50b0edb49cced56766909c0e9f3902d6"), looks := false }, kinds := [], alts := [], laidByText := true, laidKinds := [.data], laidTests := true, laidLooks := .later }
def RunNoneCardSaid : Prop := Claim7.holds Tryd.pinned (.plain (OpenSpec.ofChange runNoneSpec)) runNoneCard

/-- THE TIED CARD OF 'joinerylaw08.RunAnswers'. -/
def runAnswersCard : Claim7 := { stood := { row := runAnswersRow, standIns := [], harness := (true, "bfd71dfb10269e8ba6e027be74d69a4e50b0edb49cced56766909c0e9f3902d6"), looks := false }, kinds := [], alts := [], laidByText := true, laidKinds := [.data], laidTests := true, laidLooks := .later }
def RunAnswersCardSaid : Prop := Claim7.holds Tryd.pinned (.plain (OpenSpec.ofChange runAnswersSpec)) runAnswersCard

/-- THE TIED CARD OF 'joinerylaw08.RunEvents'. -/
def runEventsCard : Claim7 := { stood := { row := runEventsRow, standIns := [], harness := (true, "bfd71dfb10269e8ba6e027be74d69a4e50b0edb49cced56766909c0e9f3902d6"), looks := false }, kinds := [], alts := [], laidByText := true, laidKinds := [.data], laidTests := true, laidLooks := .later }
def RunEventsCardSaid : Prop := Claim7.holds Tryd.pinned (.plain (OpenSpec.ofChange runEventsSpec)) runEventsCard

/-- THE SECOND FORM's CARD OF 'joinerylaw07.StepDoes'. -/
def stepDoesUptoCard : Claim7 := { stood := { row := stepDoesUptoRow, standIns := [], harness := (true, "bfd71dfb10269e8ba6e027be74d69a4e50b0edb49cced56766909c0e9f3902d6"), looks := false }, kinds := [], alts := [], laidByText := true, laidKinds := [.data], laidTests := true, laidLooks := .later }
def StepDoesUptoCardSaid : Prop := Claim7.holds Tryd.pinned (.plain (OpenSpec.upto stepDoesSpec)) stepDoesUptoCard

/-- THE SECOND FORM's CARD OF 'joinerylaw07.StepRight'. -/
def stepRightUptoCard : Claim7 := { stood := { row := stepRightUptoRow, standIns := [], harness := (true, "bfd71dfb10269e8ba6e027be74d69a4e50b0edb49cced56766909c0e9f3902d6"), looks := false }, kinds := [], alts := [], laidByText := true, laidKinds := [.data], laidTests := true, laidLooks := .later }
def StepRightUptoCardSaid : Prop := Claim7.holds Tryd.pinned (.plain (OpenSpec.upto stepRightSpec)) stepRightUptoCard

/-- THE SECOND FORM's CARD OF 'joinerylaw07.StepMoves'. -/
def stepMovesUptoCard : Claim7 := { stood := { row := stepMovesUptoRow, standIns := [], harness := (true, "bfd71dfb10269e8ba6e027be74d69a4e50b0edb49cced56766909c0e9f3902d6"), looks := false }, kinds := [], alts := [], laidByText := true, laidKinds := [.data], laidTests := true, laidLooks := .later }
def StepMovesUptoCardSaid : Prop := Claim7.holds Tryd.pinned (.plain (OpenSpec.upto stepMovesSpec)) stepMovesUptoCard

/-- THE SECOND FORM's CARD OF 'joinerylaw07.StepKeeps'. -/
def stepKeepsUptoCard : Claim7 := { stood := { row := stepKeepsUptoRow, standIns := [], harness := (true, "bfd71dfb10269e8ba6e027be74d69a4e50b0edb49cced56766909c0e9f3902d6"), looks := false }, kinds := [], alts := [], laidByText := true, laidKinds := [.data], laidTests := true, laidLooks := .later }
def StepKeepsUptoCardSaid : Prop := Claim7.holds Tryd.pinned (.plain (OpenSpec.upto stepKeepsSpec)) stepKeepsUptoCard

/-- THE SECOND FORM's CARD OF 'joinerylaw07.StepAnswers'. -/
def stepAnswersUptoCard : Claim7 := { stood := { row := stepAnswersUptoRow, standIns := [], harness := (true, "bfd71dfb10269e8ba6e027be74d69a4e50b0edb49cced56766909c0e9f3902d6"), looks := false }, kinds := [], alts := [], laidByText := true, laidKinds := [.data], laidTests := true, laidLooks := .later }
def StepAnswersUptoCardSaid : Prop := Claim7.holds Tryd.pinned (.plain (OpenSpec.upto stepAnswersSpec)) stepAnswersUptoCard

/-- THE SECOND FORM's CARD OF 'joinerylaw07.StepHeaps'. -/
def stepHeapsUptoCard : Claim7 := { stood := { row := stepHeapsUptoRow, standIns := [], harness := (true, "bfd71dfb10269e8ba6e027be74d69a4e50b0edb49cced56766909c0e9f3902d6"), looks := false }, kinds := [], alts := [], laidByText := true, laidKinds := [.data], laidTests := true, laidLooks := .later }
def StepHeapsUptoCardSaid : Prop := Claim7.holds Tryd.pinned (.plain (OpenSpec.upto stepHeapsSpec)) stepHeapsUptoCard

/-- THE SECOND FORM's CARD OF 'joinerylaw08.RunRuns'. -/
def runRunsUptoCard : Claim7 := { stood := { row := runRunsUptoRow, standIns := [], harness := (true, "bfd71dfb10269e8ba6e027be74d69a4e50b0edb49cced56766909c0e9f3902d6"), looks := false }, kinds := [], alts := [], laidByText := true, laidKinds := [.data], laidTests := true, laidLooks := .later }
def RunRunsUptoCardSaid : Prop := Claim7.holds Tryd.pinned (.plain (OpenSpec.upto runRunsSpec)) runRunsUptoCard

/-- THE SECOND FORM's CARD OF 'joinerylaw08.RunGrows'. -/
def runGrowsUptoCard : Claim7 := { stood := { row := runGrowsUptoRow, standIns := [], harness := (true, "bfd71dfb10269e8ba6e027be74d69a4e50b0edb49cced56766909c0e9f3902d6"), looks := false }, kinds := [], alts := [], laidByText := true, laidKinds := [.data], laidTests := true, laidLooks := .later }
def RunGrowsUptoCardSaid : Prop := Claim7.holds Tryd.pinned (.plain (OpenSpec.upto runGrowsSpec)) runGrowsUptoCard

/-- THE SECOND FORM's CARD OF 'joinerylaw08.RunGoes'. -/
def runGoesUptoCard : Claim7 := { stood := { row := runGoesUptoRow, standIns := [], harness := (true, "bfd71dfb10269e8ba6e027be74d69a4e50b0edb49cced56766909c0e9f3902d6"), looks := false }, kinds := [], alts := [], laidByText := true, laidKinds := [.data], laidTests := true, laidLooks := .later }
def RunGoesUptoCardSaid : Prop := Claim7.holds Tryd.pinned (.plain (OpenSpec.upto runGoesSpec)) runGoesUptoCard

/-- THE SECOND FORM's CARD OF 'joinerylaw08.RunNone'. -/
def runNoneUptoCard : Claim7 := { stood := { row := runNoneUptoRow, standIns := [], harness := (true, "bfd71dfb10269e8ba6e027be74d69a4e50b0edb49cced56766909c0e9f3902d6"), looks := false }, kinds := [], alts := [], laidByText := true, laidKinds := [.data], laidTests := true, laidLooks := .later }
def RunNoneUptoCardSaid : Prop := Claim7.holds Tryd.pinned (.plain (OpenSpec.upto runNoneSpec)) runNoneUptoCard

/-- THE SECOND FORM's CARD OF 'joinerylaw08.RunAnswers'. -/
def runAnswersUptoCard : Claim7 := { stood := { row := runAnswersUptoRow, standIns := [], harness := (true, "bfd71dfb10269e8ba6e027be74d69a4e50b0edb49cced56766909c0e9f3902d6"), looks := false }, kinds := [], alts := [], laidByText := true, laidKinds := [.data], laidTests := true, laidLooks := .later }
def RunAnswersUptoCardSaid : Prop := Claim7.holds Tryd.pinned (.plain (OpenSpec.upto runAnswersSpec)) runAnswersUptoCard

/-- THE SECOND FORM's CARD OF 'joinerylaw08.RunEvents'. -/
def runEventsUptoCard : Claim7 := { stood := { row := runEventsUptoRow, standIns := [], harness := (true, "bfd71dfb10269e8ba6e027be74d69a4e50b0edb49cced56766909c0e9f3902d6"), looks := false }, kinds := [], alts := [], laidByText := true, laidKinds := [.data], laidTests := true, laidLooks := .later }
def RunEventsUptoCardSaid : Prop := Claim7.holds Tryd.pinned (.plain (OpenSpec.upto runEventsSpec)) runEventsUptoCard
end Rows
end Go.Proofs.YtbkbehkjndmabaaDoor
