/-
  NARROWER THAN 'FOR EVERY INPUT', by the rows' own cells (each row's printed sentence says how): StepDoes: laid · StepRight: laid · StepMoves: laid · StepKeeps: laid · StepAnswers: laid · StepHeaps: laid · RunRuns: laid · RunGrows: laid · RunGoes: laid · RunNone: laid · RunAnswers: laid · RunEvents: laid.
  DERIVED. THE GIVEN ROWS OF THIS SEAT. 12 by the template 'for every input the law returns true; each argument reads behind the call as it read before'; 0 by the template 'total and deterministic' (their statements: YtbkbehkjndmabaaDoorTotals.lean).
  GIVEN WITH THE SEED: the statements are not yours to turn. If you find one false, say at which input.
  Laid BY PROGRAM, IN A SANDBOX (cutbox-rows.mjs): the forced cells as the released guide's own fill.sh prints them over the translation 558834722ba29ca4… (all of the seat's roots in one cut). By AI agents, Wed Nov 11 2026. No macro, syntax, notation, axiom, sorry.
-/
import Derived.Test.YtbkbehkjndmabaaDoorChecked
import GoSem.Claim
import GoSem.ClaimJoined
import GoSem.ClaimMapViews
import Derived.JoinedTies
import Derived.KernelRfl
namespace Go.Proofs.YtbkbehkjndmabaaDoor
/- THE CELL 'sum', in the pinned program and in every row, IS THE sha256 OF THE DUMP (.gsa) THAT YtbkbehkjndmabaaDoorProg.lean LOADS. Nothing in Lean hashes anything: it is a label: what it is worth is what the hold of that sum in a sandbox is worth. -/
noncomputable def Tryd.pinned : Pinned := { name := "ytbkbehkjndmabaadoor", sum := "558834722ba29ca45060e81c494024239d436d3178c3e162041e4f5f0b2cf898", checked := Tryd.checked }
namespace Rows
def none {H : Type} : Left H := { results := [], args := [] }

/- WHAT THE LISTED PACKAGE-LEVEL VARIABLES READ AS WHEN THE CALL BEGINS. Each datum BY PROGRAM (the guide's laid-datum.mjs) off the statement by which the dump's own 'gosem.cut.vars' lays the variable. In a bare row this is a premise. The card (YtbkbehkjndmabaaDoorCards.lean) ties it to the program's text. -/
def laid_joinery_ins_shapes {H : Type} : DataW H := .agg [.agg [.lit (.string [99, 111, 110, 115, 116]), .lit (.string [100, 78])], .agg [.lit (.string [109, 111, 118]), .lit (.string [100, 97])], .agg [.lit (.string [115, 119, 97, 112]), .lit (.string [100, 97])], .agg [.lit (.string [97, 100, 100]), .lit (.string [68, 65, 66])], .agg [.lit (.string [115, 117, 98]), .lit (.string [68, 65, 66])], .agg [.lit (.string [109, 117, 108]), .lit (.string [68, 65, 66])], .agg [.lit (.string [100, 105, 118]), .lit (.string [68, 65, 66])], .agg [.lit (.string [97, 110, 100]), .lit (.string [68, 65, 66])], .agg [.lit (.string [111, 114]), .lit (.string [68, 65, 66])], .agg [.lit (.string [120, 111, 114]), .lit (.string [68, 65, 66])], .agg [.lit (.string [108, 101, 115, 115]), .lit (.string [68, 65, 66])], .agg [.lit (.string [115, 97, 109, 101]), .lit (.string [68, 65, 66])], .agg [.lit (.string [108, 111, 97, 100]), .lit (.string [68, 65])], .agg [.lit (.string [115, 116, 111, 114, 101]), .lit (.string [65, 66])], .agg [.lit (.string [99, 97, 108, 108]), .lit (.string [68, 65, 78])], .agg [.lit (.string [106, 117, 109, 112]), .lit (.string [84])], .agg [.lit (.string [122, 101, 114, 111]), .lit (.string [65, 84])], .agg [.lit (.string [114, 101, 116]), .lit (.string [65])]]

/-- 'joinerylaw07.StepDoes': WHATEVER THE INPUT: true; the input reads as it did. -/
def stepDoesSpec : ChangeSpec := { name := "stepDoes", fn := fun _ => fun
  | [d1, d2, d3] => { results := [.lit (.bool true)], args := [d1, d2, d3] }
  | _ => none }
def stepDoesRow : OpenClaim := { program := "ytbkbehkjndmabaadoor", sum := "558834722ba29ca45060e81c494024239d436d3178c3e162041e4f5f0b2cf898", func := "joinery/joinerylaw07.StepDoes", spec := "stepDoes", unfollowed := true, recurses := true, named := ["joinery/ins.shapes"], apart := false, laid := [("joinery/ins.shapes", laid_joinery_ins_shapes)] }
def StepDoesSaid : Prop := stepDoesRow.holds Tryd.pinned (OpenSpec.ofChange stepDoesSpec)

/-- ITS FALSE NEIGHBOUR: 'it returns false'. Refute it at one input. -/
def stepDoesWrong : ChangeSpec := { name := "stepDoes", fn := fun _ => fun
  | [d1, d2, d3] => { results := [.lit (.bool false)], args := [d1, d2, d3] }
  | _ => none }
def StepDoesWrongFalsely : Prop := stepDoesRow.holds Tryd.pinned (OpenSpec.ofChange stepDoesWrong)

/-- 'joinerylaw07.StepRight': WHATEVER THE INPUT: true; the input reads as it did. -/
def stepRightSpec : ChangeSpec := { name := "stepRight", fn := fun _ => fun
  | [d1, d2, d3] => { results := [.lit (.bool true)], args := [d1, d2, d3] }
  | _ => none }
def stepRightRow : OpenClaim := { program := "ytbkbehkjndmabaadoor", sum := "558834722ba29ca45060e81c494024239d436d3178c3e162041e4f5f0b2cf898", func := "joinery/joinerylaw07.StepRight", spec := "stepRight", unfollowed := true, recurses := true, named := ["joinery/ins.shapes"], apart := false, laid := [("joinery/ins.shapes", laid_joinery_ins_shapes)] }
def StepRightSaid : Prop := stepRightRow.holds Tryd.pinned (OpenSpec.ofChange stepRightSpec)

/-- ITS FALSE NEIGHBOUR: 'it returns false'. Refute it at one input. -/
def stepRightWrong : ChangeSpec := { name := "stepRight", fn := fun _ => fun
  | [d1, d2, d3] => { results := [.lit (.bool false)], args := [d1, d2, d3] }
  | _ => none }
def StepRightWrongFalsely : Prop := stepRightRow.holds Tryd.pinned (OpenSpec.ofChange stepRightWrong)

/-- 'joinerylaw07.StepMoves': WHATEVER THE INPUT: true; the input reads as it did. -/
def stepMovesSpec : ChangeSpec := { name := "stepMoves", fn := fun _ => fun
  | [d1, d2, d3] => { results := [.lit (.bool true)], args := [d1, d2, d3] }
  | _ => none }
def stepMovesRow : OpenClaim := { program := "ytbkbehkjndmabaadoor", sum := "558834722ba29ca45060e81c494024239d436d3178c3e162041e4f5f0b2cf898", func := "joinery/joinerylaw07.StepMoves", spec := "stepMoves", unfollowed := true, recurses := true, named := ["joinery/ins.shapes"], apart := false, laid := [("joinery/ins.shapes", laid_joinery_ins_shapes)] }
def StepMovesSaid : Prop := stepMovesRow.holds Tryd.pinned (OpenSpec.ofChange stepMovesSpec)

/-- ITS FALSE NEIGHBOUR: 'it returns false'. Refute it at one input. -/
def stepMovesWrong : ChangeSpec := { name := "stepMoves", fn := fun _ => fun
  | [d1, d2, d3] => { results := [.lit (.bool false)], args := [d1, d2, d3] }
  | _ => none }
def StepMovesWrongFalsely : Prop := stepMovesRow.holds Tryd.pinned (OpenSpec.ofChange stepMovesWrong)

/-- 'joinerylaw07.StepKeeps': WHATEVER THE INPUT: true; the input reads as it did. -/
def stepKeepsSpec : ChangeSpec := { name := "stepKeeps", fn := fun _ => fun
  | [d1, d2, d3, d4, d5] => { results := [.lit (.bool true)], args := [d1, d2, d3, d4, d5] }
  | _ => none }
def stepKeepsRow : OpenClaim := { program := "ytbkbehkjndmabaadoor", sum := "558834722ba29ca45060e81c494024239d436d3178c3e162041e4f5f0b2cf898", func := "joinery/joinerylaw07.StepKeeps", spec := "stepKeeps", unfollowed := true, recurses := true, named := ["joinery/ins.shapes"], apart := false, laid := [("joinery/ins.shapes", laid_joinery_ins_shapes)] }
def StepKeepsSaid : Prop := stepKeepsRow.holds Tryd.pinned (OpenSpec.ofChange stepKeepsSpec)

/-- ITS FALSE NEIGHBOUR: 'it returns false'. Refute it at one input. -/
def stepKeepsWrong : ChangeSpec := { name := "stepKeeps", fn := fun _ => fun
  | [d1, d2, d3, d4, d5] => { results := [.lit (.bool false)], args := [d1, d2, d3, d4, d5] }
  | _ => none }
def StepKeepsWrongFalsely : Prop := stepKeepsRow.holds Tryd.pinned (OpenSpec.ofChange stepKeepsWrong)

/-- 'joinerylaw07.StepAnswers': WHATEVER THE INPUT: true; the input reads as it did. -/
def stepAnswersSpec : ChangeSpec := { name := "stepAnswers", fn := fun _ => fun
  | [d1, d2, d3, d4] => { results := [.lit (.bool true)], args := [d1, d2, d3, d4] }
  | _ => none }
def stepAnswersRow : OpenClaim := { program := "ytbkbehkjndmabaadoor", sum := "558834722ba29ca45060e81c494024239d436d3178c3e162041e4f5f0b2cf898", func := "joinery/joinerylaw07.StepAnswers", spec := "stepAnswers", unfollowed := true, recurses := true, named := ["joinery/ins.shapes"], apart := false, laid := [("joinery/ins.shapes", laid_joinery_ins_shapes)] }
def StepAnswersSaid : Prop := stepAnswersRow.holds Tryd.pinned (OpenSpec.ofChange stepAnswersSpec)

/-- ITS FALSE NEIGHBOUR: 'it returns false'. Refute it at one input. -/
def stepAnswersWrong : ChangeSpec := { name := "stepAnswers", fn := fun _ => fun
  | [d1, d2, d3, d4] => { results := [.lit (.bool false)], args := [d1, d2, d3, d4] }
  | _ => none }
def StepAnswersWrongFalsely : Prop := stepAnswersRow.holds Tryd.pinned (OpenSpec.ofChange stepAnswersWrong)

/-- 'joinerylaw07.StepHeaps': WHATEVER THE INPUT: true; the input reads as it did. -/
def stepHeapsSpec : ChangeSpec := { name := "stepHeaps", fn := fun _ => fun
  | [d1, d2, d3] => { results := [.lit (.bool true)], args := [d1, d2, d3] }
  | _ => none }
def stepHeapsRow : OpenClaim := { program := "ytbkbehkjndmabaadoor", sum := "558834722ba29ca45060e81c494024239d436d3178c3e162041e4f5f0b2cf898", func := "joinery/joinerylaw07.StepHeaps", spec := "stepHeaps", unfollowed := true, recurses := true, named := ["joinery/ins.shapes"], apart := false, laid := [("joinery/ins.shapes", laid_joinery_ins_shapes)] }
def StepHeapsSaid : Prop := stepHeapsRow.holds Tryd.pinned (OpenSpec.ofChange stepHeapsSpec)

/-- ITS FALSE NEIGHBOUR: 'it returns false'. Refute it at one input. -/
def stepHeapsWrong : ChangeSpec := { name := "stepHeaps", fn := fun _ => fun
  | [d1, d2, d3] => { results := [.lit (.bool false)], args := [d1, d2, d3] }
  | _ => none }
def StepHeapsWrongFalsely : Prop := stepHeapsRow.holds Tryd.pinned (OpenSpec.ofChange stepHeapsWrong)

/-- 'joinerylaw08.RunRuns': WHATEVER THE INPUT: true; the input reads as it did. -/
def runRunsSpec : ChangeSpec := { name := "runRuns", fn := fun _ => fun
  | [d1, d2] => { results := [.lit (.bool true)], args := [d1, d2] }
  | _ => none }
def runRunsRow : OpenClaim := { program := "ytbkbehkjndmabaadoor", sum := "558834722ba29ca45060e81c494024239d436d3178c3e162041e4f5f0b2cf898", func := "joinery/joinerylaw08.RunRuns", spec := "runRuns", unfollowed := true, recurses := true, named := ["joinery/ins.shapes"], apart := false, laid := [("joinery/ins.shapes", laid_joinery_ins_shapes)] }
def RunRunsSaid : Prop := runRunsRow.holds Tryd.pinned (OpenSpec.ofChange runRunsSpec)

/-- ITS FALSE NEIGHBOUR: 'it returns false'. Refute it at one input. -/
def runRunsWrong : ChangeSpec := { name := "runRuns", fn := fun _ => fun
  | [d1, d2] => { results := [.lit (.bool false)], args := [d1, d2] }
  | _ => none }
def RunRunsWrongFalsely : Prop := runRunsRow.holds Tryd.pinned (OpenSpec.ofChange runRunsWrong)

/-- 'joinerylaw08.RunGrows': WHATEVER THE INPUT: true; the input reads as it did. -/
def runGrowsSpec : ChangeSpec := { name := "runGrows", fn := fun _ => fun
  | [d1, d2, d3] => { results := [.lit (.bool true)], args := [d1, d2, d3] }
  | _ => none }
def runGrowsRow : OpenClaim := { program := "ytbkbehkjndmabaadoor", sum := "558834722ba29ca45060e81c494024239d436d3178c3e162041e4f5f0b2cf898", func := "joinery/joinerylaw08.RunGrows", spec := "runGrows", unfollowed := true, recurses := true, named := ["joinery/ins.shapes"], apart := false, laid := [("joinery/ins.shapes", laid_joinery_ins_shapes)] }
def RunGrowsSaid : Prop := runGrowsRow.holds Tryd.pinned (OpenSpec.ofChange runGrowsSpec)

/-- ITS FALSE NEIGHBOUR: 'it returns false'. Refute it at one input. -/
def runGrowsWrong : ChangeSpec := { name := "runGrows", fn := fun _ => fun
  | [d1, d2, d3] => { results := [.lit (.bool false)], args := [d1, d2, d3] }
  | _ => none }
def RunGrowsWrongFalsely : Prop := runGrowsRow.holds Tryd.pinned (OpenSpec.ofChange runGrowsWrong)

/-- 'joinerylaw08.RunGoes': WHATEVER THE INPUT: true; the input reads as it did. -/
def runGoesSpec : ChangeSpec := { name := "runGoes", fn := fun _ => fun
  | [d1, d2, d3] => { results := [.lit (.bool true)], args := [d1, d2, d3] }
  | _ => none }
def runGoesRow : OpenClaim := { program := "ytbkbehkjndmabaadoor", sum := "558834722ba29ca45060e81c494024239d436d3178c3e162041e4f5f0b2cf898", func := "joinery/joinerylaw08.RunGoes", spec := "runGoes", unfollowed := true, recurses := true, named := ["joinery/ins.shapes"], apart := false, laid := [("joinery/ins.shapes", laid_joinery_ins_shapes)] }
def RunGoesSaid : Prop := runGoesRow.holds Tryd.pinned (OpenSpec.ofChange runGoesSpec)

/-- ITS FALSE NEIGHBOUR: 'it returns false'. Refute it at one input. -/
def runGoesWrong : ChangeSpec := { name := "runGoes", fn := fun _ => fun
  | [d1, d2, d3] => { results := [.lit (.bool false)], args := [d1, d2, d3] }
  | _ => none }
def RunGoesWrongFalsely : Prop := runGoesRow.holds Tryd.pinned (OpenSpec.ofChange runGoesWrong)

/-- 'joinerylaw08.RunNone': WHATEVER THE INPUT: true; the input reads as it did. -/
def runNoneSpec : ChangeSpec := { name := "runNone", fn := fun _ => fun
  | [d1, d2] => { results := [.lit (.bool true)], args := [d1, d2] }
  | _ => none }
def runNoneRow : OpenClaim := { program := "ytbkbehkjndmabaadoor", sum := "558834722ba29ca45060e81c494024239d436d3178c3e162041e4f5f0b2cf898", func := "joinery/joinerylaw08.RunNone", spec := "runNone", unfollowed := true, recurses := true, named := ["joinery/ins.shapes"], apart := false, laid := [("joinery/ins.shapes", laid_joinery_ins_shapes)] }
def RunNoneSaid : Prop := runNoneRow.holds Tryd.pinned (OpenSpec.ofChange runNoneSpec)

/-- ITS FALSE NEIGHBOUR: 'it returns false'. Refute it at one input. -/
def runNoneWrong : ChangeSpec := { name := "runNone", fn := fun _ => fun
  | [d1, d2] => { results := [.lit (.bool false)], args := [d1, d2] }
  | _ => none }
def RunNoneWrongFalsely : Prop := runNoneRow.holds Tryd.pinned (OpenSpec.ofChange runNoneWrong)

/-- 'joinerylaw08.RunAnswers': WHATEVER THE INPUT: true; the input reads as it did. -/
def runAnswersSpec : ChangeSpec := { name := "runAnswers", fn := fun _ => fun
  | [d1, d2, d3] => { results := [.lit (.bool true)], args := [d1, d2, d3] }
  | _ => none }
def runAnswersRow : OpenClaim := { program := "ytbkbehkjndmabaadoor", sum := "558834722ba29ca45060e81c494024239d436d3178c3e162041e4f5f0b2cf898", func := "joinery/joinerylaw08.RunAnswers", spec := "runAnswers", unfollowed := true, recurses := true, named := ["joinery/ins.shapes"], apart := false, laid := [("joinery/ins.shapes", laid_joinery_ins_shapes)] }
def RunAnswersSaid : Prop := runAnswersRow.holds Tryd.pinned (OpenSpec.ofChange runAnswersSpec)

/-- ITS FALSE NEIGHBOUR: 'it returns false'. Refute it at one input. -/
def runAnswersWrong : ChangeSpec := { name := "runAnswers", fn := fun _ => fun
  | [d1, d2, d3] => { results := [.lit (.bool false)], args := [d1, d2, d3] }
  | _ => none }
def RunAnswersWrongFalsely : Prop := runAnswersRow.holds Tryd.pinned (OpenSpec.ofChange runAnswersWrong)

/-- 'joinerylaw08.RunEvents': WHATEVER THE INPUT: true; the input reads as it did. -/
def runEventsSpec : ChangeSpec := { name := "runEvents", fn := fun _ => fun
  | [d1, d2] => { results := [.lit (.bool true)], args := [d1, d2] }
  | _ => none }
def runEventsRow : OpenClaim := { program := "ytbkbehkjndmabaadoor", sum := "558834722ba29ca45060e81c494024239d436d3178c3e162041e4f5f0b2cf898", func := "joinery/joinerylaw08.RunEvents", spec := "runEvents", unfollowed := true, recurses := true, named := ["joinery/ins.shapes"], apart := false, laid := [("joinery/ins.shapes", laid_joinery_ins_shapes)] }
def RunEventsSaid : Prop := runEventsRow.holds Tryd.pinned (OpenSpec.ofChange runEventsSpec)

/-- ITS FALSE NEIGHBOUR: 'it returns false'. Refute it at one input. -/
def runEventsWrong : ChangeSpec := { name := "runEvents", fn := fun _ => fun
  | [d1, d2] => { results := [.lit (.bool false)], args := [d1, d2] }
  | _ => none }
def RunEventsWrongFalsely : Prop := runEventsRow.holds Tryd.pinned (OpenSpec.ofChange runEventsWrong)

/- THE SECOND FORM. 'bulk': how many values and letters a reading holds, each counted each time it is reached (what is shared counts as often as it is met; a slice's spare places count too). A statement '..UptoSaid' is the law's where the arguments, and the package variables that the reading takes, are together of bulk at most 1048576: NARROWER than '..Said'. Prove '..Said' where nothing that the law and all that it calls make is longer than what came in: it says more and counts as full. Else prove '..UptoSaid'. A law counts once. -/
mutual
def uptoBulk {H : Type} : DataW H → Nat
  | .lit (.string bytes) => bytes.length + 1
  | .lit _ => 1
  | .nil => 1
  | .ptr d => uptoBulk d + 1
  | .slice elems spare => uptoBulkAll elems + uptoBulkAll spare + 1
  | .agg parts => uptoBulkAll parts + 1
  | .iface _ d => uptoBulk d + 1
  | .map entries => uptoBulkEntries entries + 1
  | .held _ => 1
def uptoBulkAll {H : Type} : List (DataW H) → Nat
  | [] => 0
  | d :: r => uptoBulk d + uptoBulkAll r
def uptoBulkEntries {H : Type} : List (Lit × DataW H) → Nat
  | [] => 0
  | x :: r => uptoBulkEntry x + uptoBulkEntries r
def uptoBulkEntry {H : Type} : Lit × DataW H → Nat
  | (.string bytes, d) => bytes.length + uptoBulk d + 1
  | (_, d) => uptoBulk d + 1
 end
def uptoSmall : (H : Type) → List (DataW H) → Bool := fun _ ds => decide (uptoBulkAll ds ≤ 1048576)
def OpenSpec.upto (s : _root_.Go.ChangeSpec) : _root_.Go.OpenSpec := { _root_.Go.OpenSpec.ofChange s with cond := some uptoSmall }

/-- 'joinerylaw07.StepDoes', WHERE WHAT IT READS IS OF BULK AT MOST 1048576: true; the input reads as it did. -/
def stepDoesUptoRow : OpenClaim := { program := "ytbkbehkjndmabaadoor", sum := "558834722ba29ca45060e81c494024239d436d3178c3e162041e4f5f0b2cf898", func := "joinery/joinerylaw07.StepDoes", spec := "stepDoes", unfollowed := true, recurses := true, named := ["joinery/ins.shapes"], apart := false, laid := [("joinery/ins.shapes", laid_joinery_ins_shapes)], narrowed := true }
def StepDoesUptoSaid : Prop := stepDoesUptoRow.holds Tryd.pinned (OpenSpec.upto stepDoesSpec)

/-- 'joinerylaw07.StepRight', WHERE WHAT IT READS IS OF BULK AT MOST 1048576: true; the input reads as it did. -/
def stepRightUptoRow : OpenClaim := { program := "ytbkbehkjndmabaadoor", sum := "558834722ba29ca45060e81c494024239d436d3178c3e162041e4f5f0b2cf898", func := "joinery/joinerylaw07.StepRight", spec := "stepRight", unfollowed := true, recurses := true, named := ["joinery/ins.shapes"], apart := false, laid := [("joinery/ins.shapes", laid_joinery_ins_shapes)], narrowed := true }
def StepRightUptoSaid : Prop := stepRightUptoRow.holds Tryd.pinned (OpenSpec.upto stepRightSpec)

/-- 'joinerylaw07.StepMoves', WHERE WHAT IT READS IS OF BULK AT MOST 1048576: true; the input reads as it did. -/
def stepMovesUptoRow : OpenClaim := { program := "ytbkbehkjndmabaadoor", sum := "558834722ba29ca45060e81c494024239d436d3178c3e162041e4f5f0b2cf898", func := "joinery/joinerylaw07.StepMoves", spec := "stepMoves", unfollowed := true, recurses := true, named := ["joinery/ins.shapes"], apart := false, laid := [("joinery/ins.shapes", laid_joinery_ins_shapes)], narrowed := true }
def StepMovesUptoSaid : Prop := stepMovesUptoRow.holds Tryd.pinned (OpenSpec.upto stepMovesSpec)

/-- 'joinerylaw07.StepKeeps', WHERE WHAT IT READS IS OF BULK AT MOST 1048576: true; the input reads as it did. -/
def stepKeepsUptoRow : OpenClaim := { program := "ytbkbehkjndmabaadoor", sum := "558834722ba29ca45060e81c494024239d436d3178c3e162041e4f5f0b2cf898", func := "joinery/joinerylaw07.StepKeeps", spec := "stepKeeps", unfollowed := true, recurses := true, named := ["joinery/ins.shapes"], apart := false, laid := [("joinery/ins.shapes", laid_joinery_ins_shapes)], narrowed := true }
def StepKeepsUptoSaid : Prop := stepKeepsUptoRow.holds Tryd.pinned (OpenSpec.upto stepKeepsSpec)

/-- 'joinerylaw07.StepAnswers', WHERE WHAT IT READS IS OF BULK AT MOST 1048576: true; the input reads as it did. -/
def stepAnswersUptoRow : OpenClaim := { program := "ytbkbehkjndmabaadoor", sum := "558834722ba29ca45060e81c494024239d436d3178c3e162041e4f5f0b2cf898", func := "joinery/joinerylaw07.StepAnswers", spec := "stepAnswers", unfollowed := true, recurses := true, named := ["joinery/ins.shapes"], apart := false, laid := [("joinery/ins.shapes", laid_joinery_ins_shapes)], narrowed := true }
def StepAnswersUptoSaid : Prop := stepAnswersUptoRow.holds Tryd.pinned (OpenSpec.upto stepAnswersSpec)

/-- 'joinerylaw07.StepHeaps', WHERE WHAT IT READS IS OF BULK AT MOST 1048576: true; the input reads as it did. -/
def stepHeapsUptoRow : OpenClaim := { program := "ytbkbehkjndmabaadoor", sum := "558834722ba29ca45060e81c494024239d436d3178c3e162041e4f5f0b2cf898", func := "joinery/joinerylaw07.StepHeaps", spec := "stepHeaps", unfollowed := true, recurses := true, named := ["joinery/ins.shapes"], apart := false, laid := [("joinery/ins.shapes", laid_joinery_ins_shapes)], narrowed := true }
def StepHeapsUptoSaid : Prop := stepHeapsUptoRow.holds Tryd.pinned (OpenSpec.upto stepHeapsSpec)

/-- 'joinerylaw08.RunRuns', WHERE WHAT IT READS IS OF BULK AT MOST 1048576: true; the input reads as it did. -/
def runRunsUptoRow : OpenClaim := { program := "ytbkbehkjndmabaadoor", sum := "558834722ba29ca45060e81c494024239d436d3178c3e162041e4f5f0b2cf898", func := "joinery/joinerylaw08.RunRuns", spec := "runRuns", unfollowed := true, recurses := true, named := ["joinery/ins.shapes"], apart := false, laid := [("joinery/ins.shapes", laid_joinery_ins_shapes)], narrowed := true }
def RunRunsUptoSaid : Prop := runRunsUptoRow.holds Tryd.pinned (OpenSpec.upto runRunsSpec)

/-- 'joinerylaw08.RunGrows', WHERE WHAT IT READS IS OF BULK AT MOST 1048576: true; the input reads as it did. -/
def runGrowsUptoRow : OpenClaim := { program := "ytbkbehkjndmabaadoor", sum := "558834722ba29ca45060e81c494024239d436d3178c3e162041e4f5f0b2cf898", func := "joinery/joinerylaw08.RunGrows", spec := "runGrows", unfollowed := true, recurses := true, named := ["joinery/ins.shapes"], apart := false, laid := [("joinery/ins.shapes", laid_joinery_ins_shapes)], narrowed := true }
def RunGrowsUptoSaid : Prop := runGrowsUptoRow.holds Tryd.pinned (OpenSpec.upto runGrowsSpec)

/-- 'joinerylaw08.RunGoes', WHERE WHAT IT READS IS OF BULK AT MOST 1048576: true; the input reads as it did. -/
def runGoesUptoRow : OpenClaim := { program := "ytbkbehkjndmabaadoor", sum := "558834722ba29ca45060e81c494024239d436d3178c3e162041e4f5f0b2cf898", func := "joinery/joinerylaw08.RunGoes", spec := "runGoes", unfollowed := true, recurses := true, named := ["joinery/ins.shapes"], apart := false, laid := [("joinery/ins.shapes", laid_joinery_ins_shapes)], narrowed := true }
def RunGoesUptoSaid : Prop := runGoesUptoRow.holds Tryd.pinned (OpenSpec.upto runGoesSpec)

/-- 'joinerylaw08.RunNone', WHERE WHAT IT READS IS OF BULK AT MOST 1048576: true; the input reads as it did. -/
def runNoneUptoRow : OpenClaim := { program := "ytbkbehkjndmabaadoor", sum := "558834722ba29ca45060e81c494024239d436d3178c3e162041e4f5f0b2cf898", func := "joinery/joinerylaw08.RunNone", spec := "runNone", unfollowed := true, recurses := true, named := ["joinery/ins.shapes"], apart := false, laid := [("joinery/ins.shapes", laid_joinery_ins_shapes)], narrowed := true }
def RunNoneUptoSaid : Prop := runNoneUptoRow.holds Tryd.pinned (OpenSpec.upto runNoneSpec)

/-- 'joinerylaw08.RunAnswers', WHERE WHAT IT READS IS OF BULK AT MOST 1048576: true; the input reads as it did. -/
def runAnswersUptoRow : OpenClaim := { program := "ytbkbehkjndmabaadoor", sum := "558834722ba29ca45060e81c494024239d436d3178c3e162041e4f5f0b2cf898", func := "joinery/joinerylaw08.RunAnswers", spec := "runAnswers", unfollowed := true, recurses := true, named := ["joinery/ins.shapes"], apart := false, laid := [("joinery/ins.shapes", laid_joinery_ins_shapes)], narrowed := true }
def RunAnswersUptoSaid : Prop := runAnswersUptoRow.holds Tryd.pinned (OpenSpec.upto runAnswersSpec)

/-- 'joinerylaw08.RunEvents', WHERE WHAT IT READS IS OF BULK AT MOST 1048576: true; the input reads as it did. -/
def runEventsUptoRow : OpenClaim := { program := "ytbkbehkjndmabaadoor", sum := "558834722ba29ca45060e81c494024239d436d3178c3e162041e4f5f0b2cf898", func := "joinery/joinerylaw08.RunEvents", spec := "runEvents", unfollowed := true, recurses := true, named := ["joinery/ins.shapes"], apart := false, laid := [("joinery/ins.shapes", laid_joinery_ins_shapes)], narrowed := true }
def RunEventsUptoSaid : Prop := runEventsUptoRow.holds Tryd.pinned (OpenSpec.upto runEventsSpec)

end Rows
end Go.Proofs.YtbkbehkjndmabaaDoor
