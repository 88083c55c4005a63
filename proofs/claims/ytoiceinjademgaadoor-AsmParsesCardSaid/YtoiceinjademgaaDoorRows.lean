/-
  NARROWER THAN 'FOR EVERY INPUT', by the rows' own cells (each row's printed sentence says how): AsmChecks: laid · AsmPrints: laid · AsmParses: laid · AsmBack: laid · AsmApart: laid · AsmCut: laid · AsmBehind: laid.
  DERIVED. THE GIVEN ROWS OF THIS SEAT. 7 by the template 'for every input the law returns true; each argument reads behind the call as it read before'; 0 by the template 'total and deterministic' (their statements: YtoiceinjademgaaDoorTotals.lean).
  GIVEN WITH THE SEED: the statements are not yours to turn. If you find one false, say at which input.
  Laid BY PROGRAM, IN A SANDBOX (cutbox-rows.mjs): the forced cells as the released guide's own fill.sh prints them over the translation 894fe95ca604703d… (all of the seat's roots in one cut). By AI agents, Wed Nov 11 2026. No macro, syntax, notation, axiom, sorry.
-/
import Derived.Test.YtoiceinjademgaaDoorChecked
import GoSem.Claim
import GoSem.ClaimJoined
import GoSem.ClaimMapViews
import Derived.JoinedTies
import Derived.KernelRfl
namespace Go.Proofs.YtoiceinjademgaaDoor
/- THE CELL 'sum', in the pinned program and in every row, IS THE sha256 OF THE DUMP (.gsa) THAT YtoiceinjademgaaDoorProg.lean LOADS. Nothing in Lean hashes anything: it is a label: what it is worth is what the hold of that sum in a sandbox is worth. -/
noncomputable def Tryd.pinned : Pinned := { name := "ytoiceinjademgaadoor", sum := "894fe95ca604703da662d76e55b387eccaf22da6f35e4628887e1e10b8ab9cda", checked := Tryd.checked }
namespace Rows
def none {H : Type} : Left H := { results := [], args := [] }

/- WHAT THE LISTED PACKAGE-LEVEL VARIABLES READ AS WHEN THE CALL BEGINS. Each datum BY PROGRAM (the guide's laid-datum.mjs) off the statement by which the dump's own 'gosem.cut.vars' lays the variable. In a bare row this is a premise. The card (YtoiceinjademgaaDoorCards.lean) ties it to the program's text. -/
def laid_joinery_ins_shapes {H : Type} : DataW H := .agg [.agg [.lit (.string [99, 111, 110, 115, 116]), .lit (.string [100, 78])], .agg [.lit (.string [109, 111, 118]), .lit (.string [100, 97])], .agg [.lit (.string [115, 119, 97, 112]), .lit (.string [100, 97])], .agg [.lit (.string [97, 100, 100]), .lit (.string [68, 65, 66])], .agg [.lit (.string [115, 117, 98]), .lit (.string [68, 65, 66])], .agg [.lit (.string [109, 117, 108]), .lit (.string [68, 65, 66])], .agg [.lit (.string [100, 105, 118]), .lit (.string [68, 65, 66])], .agg [.lit (.string [97, 110, 100]), .lit (.string [68, 65, 66])], .agg [.lit (.string [111, 114]), .lit (.string [68, 65, 66])], .agg [.lit (.string [120, 111, 114]), .lit (.string [68, 65, 66])], .agg [.lit (.string [108, 101, 115, 115]), .lit (.string [68, 65, 66])], .agg [.lit (.string [115, 97, 109, 101]), .lit (.string [68, 65, 66])], .agg [.lit (.string [108, 111, 97, 100]), .lit (.string [68, 65])], .agg [.lit (.string [115, 116, 111, 114, 101]), .lit (.string [65, 66])], .agg [.lit (.string [99, 97, 108, 108]), .lit (.string [68, 65, 78])], .agg [.lit (.string [106, 117, 109, 112]), .lit (.string [84])], .agg [.lit (.string [122, 101, 114, 111]), .lit (.string [65, 84])], .agg [.lit (.string [114, 101, 116]), .lit (.string [65])]]

/-- 'joinerylaw04.AsmChecks': WHATEVER THE INPUT: true; the input reads as it did. -/
def asmChecksSpec : ChangeSpec := { name := "asmChecks", fn := fun _ => fun
  | [d] => { results := [.lit (.bool true)], args := [d] }
  | _ => none }
def asmChecksRow : OpenClaim := { program := "ytoiceinjademgaadoor", sum := "894fe95ca604703da662d76e55b387eccaf22da6f35e4628887e1e10b8ab9cda", func := "joinery/joinerylaw04.AsmChecks", spec := "asmChecks", unfollowed := true, recurses := true, named := ["joinery/ins.shapes"], apart := false, laid := [("joinery/ins.shapes", laid_joinery_ins_shapes)] }
def AsmChecksSaid : Prop := asmChecksRow.holds Tryd.pinned (OpenSpec.ofChange asmChecksSpec)

/-- ITS FALSE NEIGHBOUR: 'it returns false'. Refute it at one input. -/
def asmChecksWrong : ChangeSpec := { name := "asmChecks", fn := fun _ => fun
  | [d] => { results := [.lit (.bool false)], args := [d] }
  | _ => none }
def AsmChecksWrongFalsely : Prop := asmChecksRow.holds Tryd.pinned (OpenSpec.ofChange asmChecksWrong)

/-- 'joinerylaw04.AsmPrints': WHATEVER THE INPUT: true; the input reads as it did. -/
def asmPrintsSpec : ChangeSpec := { name := "asmPrints", fn := fun _ => fun
  | [d] => { results := [.lit (.bool true)], args := [d] }
  | _ => none }
def asmPrintsRow : OpenClaim := { program := "ytoiceinjademgaadoor", sum := "894fe95ca604703da662d76e55b387eccaf22da6f35e4628887e1e10b8ab9cda", func := "joinery/joinerylaw04.AsmPrints", spec := "asmPrints", unfollowed := true, recurses := true, named := ["joinery/ins.shapes"], apart := false, laid := [("joinery/ins.shapes", laid_joinery_ins_shapes)] }
def AsmPrintsSaid : Prop := asmPrintsRow.holds Tryd.pinned (OpenSpec.ofChange asmPrintsSpec)

/-- ITS FALSE NEIGHBOUR: 'it returns false'. Refute it at one input. -/
def asmPrintsWrong : ChangeSpec := { name := "asmPrints", fn := fun _ => fun
  | [d] => { results := [.lit (.bool false)], args := [d] }
  | _ => none }
def AsmPrintsWrongFalsely : Prop := asmPrintsRow.holds Tryd.pinned (OpenSpec.ofChange asmPrintsWrong)

/-- 'joinerylaw04.AsmParses': WHATEVER THE INPUT: true; the input reads as it did. -/
def asmParsesSpec : ChangeSpec := { name := "asmParses", fn := fun _ => fun
  | [d] => { results := [.lit (.bool true)], args := [d] }
  | _ => none }
def asmParsesRow : OpenClaim := { program := "ytoiceinjademgaadoor", sum := "894fe95ca604703da662d76e55b387eccaf22da6f35e4628887e1e10b8ab9cda", func := "joinery/joinerylaw04.AsmParses", spec := "asmParses", unfollowed := true, recurses := true, named := ["joinery/ins.shapes"], apart := false, laid := [("joinery/ins.shapes", laid_joinery_ins_shapes)] }
def AsmParsesSaid : Prop := asmParsesRow.holds Tryd.pinned (OpenSpec.ofChange asmParsesSpec)

/-- ITS FALSE NEIGHBOUR: 'it returns false'. Refute it at one input. -/
def asmParsesWrong : ChangeSpec := { name := "asmParses", fn := fun _ => fun
  | [d] => { results := [.lit (.bool false)], args := [d] }
  | _ => none }
def AsmParsesWrongFalsely : Prop := asmParsesRow.holds Tryd.pinned (OpenSpec.ofChange asmParsesWrong)

/-- 'joinerylaw04.AsmBack': WHATEVER THE INPUT: true; the input reads as it did. -/
def asmBackSpec : ChangeSpec := { name := "asmBack", fn := fun _ => fun
  | [d1, d2] => { results := [.lit (.bool true)], args := [d1, d2] }
  | _ => none }
def asmBackRow : OpenClaim := { program := "ytoiceinjademgaadoor", sum := "894fe95ca604703da662d76e55b387eccaf22da6f35e4628887e1e10b8ab9cda", func := "joinery/joinerylaw04.AsmBack", spec := "asmBack", unfollowed := true, recurses := true, named := ["joinery/ins.shapes"], apart := false, laid := [("joinery/ins.shapes", laid_joinery_ins_shapes)] }
def AsmBackSaid : Prop := asmBackRow.holds Tryd.pinned (OpenSpec.ofChange asmBackSpec)

/-- ITS FALSE NEIGHBOUR: 'it returns false'. Refute it at one input. -/
def asmBackWrong : ChangeSpec := { name := "asmBack", fn := fun _ => fun
  | [d1, d2] => { results := [.lit (.bool false)], args := [d1, d2] }
  | _ => none }
def AsmBackWrongFalsely : Prop := asmBackRow.holds Tryd.pinned (OpenSpec.ofChange asmBackWrong)

/-- 'joinerylaw04.AsmApart': WHATEVER THE INPUT: true; the input reads as it did. -/
def asmApartSpec : ChangeSpec := { name := "asmApart", fn := fun _ => fun
  | [d1, d2] => { results := [.lit (.bool true)], args := [d1, d2] }
  | _ => none }
def asmApartRow : OpenClaim := { program := "ytoiceinjademgaadoor", sum := "894fe95ca604703da662d76e55b387eccaf22da6f35e4628887e1e10b8ab9cda", func := "joinery/joinerylaw04.AsmApart", spec := "asmApart", unfollowed := true, recurses := true, named := ["joinery/ins.shapes"], apart := false, laid := [("joinery/ins.shapes", laid_joinery_ins_shapes)] }
def AsmApartSaid : Prop := asmApartRow.holds Tryd.pinned (OpenSpec.ofChange asmApartSpec)

/-- ITS FALSE NEIGHBOUR: 'it returns false'. Refute it at one input. -/
def asmApartWrong : ChangeSpec := { name := "asmApart", fn := fun _ => fun
  | [d1, d2] => { results := [.lit (.bool false)], args := [d1, d2] }
  | _ => none }
def AsmApartWrongFalsely : Prop := asmApartRow.holds Tryd.pinned (OpenSpec.ofChange asmApartWrong)

/-- 'joinerylaw04.AsmCut': WHATEVER THE INPUT: true; the input reads as it did. -/
def asmCutSpec : ChangeSpec := { name := "asmCut", fn := fun _ => fun
  | [d] => { results := [.lit (.bool true)], args := [d] }
  | _ => none }
def asmCutRow : OpenClaim := { program := "ytoiceinjademgaadoor", sum := "894fe95ca604703da662d76e55b387eccaf22da6f35e4628887e1e10b8ab9cda", func := "joinery/joinerylaw04.AsmCut", spec := "asmCut", unfollowed := true, recurses := true, named := ["joinery/ins.shapes"], apart := false, laid := [("joinery/ins.shapes", laid_joinery_ins_shapes)] }
def AsmCutSaid : Prop := asmCutRow.holds Tryd.pinned (OpenSpec.ofChange asmCutSpec)

/-- ITS FALSE NEIGHBOUR: 'it returns false'. Refute it at one input. -/
def asmCutWrong : ChangeSpec := { name := "asmCut", fn := fun _ => fun
  | [d] => { results := [.lit (.bool false)], args := [d] }
  | _ => none }
def AsmCutWrongFalsely : Prop := asmCutRow.holds Tryd.pinned (OpenSpec.ofChange asmCutWrong)

/-- 'joinerylaw04.AsmBehind': WHATEVER THE INPUT: true; the input reads as it did. -/
def asmBehindSpec : ChangeSpec := { name := "asmBehind", fn := fun _ => fun
  | [d1, d2] => { results := [.lit (.bool true)], args := [d1, d2] }
  | _ => none }
def asmBehindRow : OpenClaim := { program := "ytoiceinjademgaadoor", sum := "894fe95ca604703da662d76e55b387eccaf22da6f35e4628887e1e10b8ab9cda", func := "joinery/joinerylaw04.AsmBehind", spec := "asmBehind", unfollowed := true, recurses := true, named := ["joinery/ins.shapes"], apart := false, laid := [("joinery/ins.shapes", laid_joinery_ins_shapes)] }
def AsmBehindSaid : Prop := asmBehindRow.holds Tryd.pinned (OpenSpec.ofChange asmBehindSpec)

/-- ITS FALSE NEIGHBOUR: 'it returns false'. Refute it at one input. -/
def asmBehindWrong : ChangeSpec := { name := "asmBehind", fn := fun _ => fun
  | [d1, d2] => { results := [.lit (.bool false)], args := [d1, d2] }
  | _ => none }
def AsmBehindWrongFalsely : Prop := asmBehindRow.holds Tryd.pinned (OpenSpec.ofChange asmBehindWrong)

/- THE SECOND FORM. 'bulk': how many values and letters a reading holds, each counted each time it is reached (what is shared counts as often as it is met; a slice's spare places count too). A statement '..UptoSaid' is the law's where the arguments, and the package variables that the reading takes, are together of bulk at most 1048576: NARROWER than '..Said'. Prove '..Said' where nothing that the law and all that it calls make is longer than what came in: it says more and counts as full. Else prove '..UptoSaid'. A law counts once. -/
mutual
def uptoBulk {H : Type} : DataW H → Nat
  | .lit (.string bytes) => bytes.length + 1
  | .lit _ => 1
  | .nil => 1
  | .ptr d => uptoBulk d + 1
  | .slice elems spare => uptoBulkAll elems + uptoBulkAll spare + 1
  | .agg parts => uptoBulkAll parts + 1
  | .iface _ d => uptoBulk d + 1
  | .map entries => uptoBulkEntries entries + 1
  | .held _ => 1
def uptoBulkAll {H : Type} : List (DataW H) → Nat
  | [] => 0
  | d :: r => uptoBulk d + uptoBulkAll r
def uptoBulkEntries {H : Type} : List (Lit × DataW H) → Nat
  | [] => 0
  | x :: r => uptoBulkEntry x + uptoBulkEntries r
def uptoBulkEntry {H : Type} : Lit × DataW H → Nat
  | (.string bytes, d) => bytes.length + uptoBulk d + 1
  | (_, d) => uptoBulk d + 1
 end
def uptoSmall : (H : Type) → List (DataW H) → Bool := fun _ ds => decide (uptoBulkAll ds ≤ 1048576)
def OpenSpec.upto (s : _root_.Go.ChangeSpec) : _root_.Go.OpenSpec := { _root_.Go.OpenSpec.ofChange s with cond := some uptoSmall }

/-- 'joinerylaw04.AsmChecks', WHERE WHAT IT READS IS OF BULK AT MOST 1048576: true; the input reads as it did. -/
def asmChecksUptoRow : OpenClaim := { program := "ytoiceinjademgaadoor", sum := "894fe95ca604703da662d76e55b387eccaf22da6f35e4628887e1e10b8ab9cda", func := "joinery/joinerylaw04.AsmChecks", spec := "asmChecks", unfollowed := true, recurses := true, named := ["joinery/ins.shapes"], apart := false, laid := [("joinery/ins.shapes", laid_joinery_ins_shapes)], narrowed := true }
def AsmChecksUptoSaid : Prop := asmChecksUptoRow.holds Tryd.pinned (OpenSpec.upto asmChecksSpec)

/-- 'joinerylaw04.AsmPrints', WHERE WHAT IT READS IS OF BULK AT MOST 1048576: true; the input reads as it did. -/
def asmPrintsUptoRow : OpenClaim := { program := "ytoiceinjademgaadoor", sum := "894fe95ca604703da662d76e55b387eccaf22da6f35e4628887e1e10b8ab9cda", func := "joinery/joinerylaw04.AsmPrints", spec := "asmPrints", unfollowed := true, recurses := true, named := ["joinery/ins.shapes"], apart := false, laid := [("joinery/ins.shapes", laid_joinery_ins_shapes)], narrowed := true }
def AsmPrintsUptoSaid : Prop := asmPrintsUptoRow.holds Tryd.pinned (OpenSpec.upto asmPrintsSpec)

/-- 'joinerylaw04.AsmParses', WHERE WHAT IT READS IS OF BULK AT MOST 1048576: true; the input reads as it did. -/
def asmParsesUptoRow : OpenClaim := { program := "ytoiceinjademgaadoor", sum := "894fe95ca604703da662d76e55b387eccaf22da6f35e4628887e1e10b8ab9cda", func := "joinery/joinerylaw04.AsmParses", spec := "asmParses", unfollowed := true, recurses := true, named := ["joinery/ins.shapes"], apart := false, laid := [("joinery/ins.shapes", laid_joinery_ins_shapes)], narrowed := true }
def AsmParsesUptoSaid : Prop := asmParsesUptoRow.holds Tryd.pinned (OpenSpec.upto asmParsesSpec)

/-- 'joinerylaw04.AsmBack', WHERE WHAT IT READS IS OF BULK AT MOST 1048576: true; the input reads as it did. -/
def asmBackUptoRow : OpenClaim := { program := "ytoiceinjademgaadoor", sum := "894fe95ca604703da662d76e55b387eccaf22da6f35e4628887e1e10b8ab9cda", func := "joinery/joinerylaw04.AsmBack", spec := "asmBack", unfollowed := true, recurses := true, named := ["joinery/ins.shapes"], apart := false, laid := [("joinery/ins.shapes", laid_joinery_ins_shapes)], narrowed := true }
def AsmBackUptoSaid : Prop := asmBackUptoRow.holds Tryd.pinned (OpenSpec.upto asmBackSpec)

/-- 'joinerylaw04.AsmApart', WHERE WHAT IT READS IS OF BULK AT MOST 1048576: true; the input reads as it did. -/
def asmApartUptoRow : OpenClaim := { program := "ytoiceinjademgaadoor", sum := "894fe95ca604703da662d76e55b387eccaf22da6f35e4628887e1e10b8ab9cda", func := "joinery/joinerylaw04.AsmApart", spec := "asmApart", unfollowed := true, recurses := true, named := ["joinery/ins.shapes"], apart := false, laid := [("joinery/ins.shapes", laid_joinery_ins_shapes)], narrowed := true }
def AsmApartUptoSaid : Prop := asmApartUptoRow.holds Tryd.pinned (OpenSpec.upto asmApartSpec)

/-- 'joinerylaw04.AsmCut', WHERE WHAT IT READS IS OF BULK AT MOST 1048576: true; the input reads as it did. -/
def asmCutUptoRow : OpenClaim := { program := "ytoiceinjademgaadoor", sum := "894fe95ca604703da662d76e55b387eccaf22da6f35e4628887e1e10b8ab9cda", func := "joinery/joinerylaw04.AsmCut", spec := "asmCut", unfollowed := true, recurses := true, named := ["joinery/ins.shapes"], apart := false, laid := [("joinery/ins.shapes", laid_joinery_ins_shapes)], narrowed := true }
def AsmCutUptoSaid : Prop := asmCutUptoRow.holds Tryd.pinned (OpenSpec.upto asmCutSpec)

/-- 'joinerylaw04.AsmBehind', WHERE WHAT IT READS IS OF BULK AT MOST 1048576: true; the input reads as it did. -/
def asmBehindUptoRow : OpenClaim := { program := "ytoiceinjademgaadoor", sum := "894fe95ca604703da662d76e55b387eccaf22da6f35e4628887e1e10b8ab9cda", func := "joinery/joinerylaw04.AsmBehind", spec := "asmBehind", unfollowed := true, recurses := true, named := ["joinery/ins.shapes"], apart := false, laid := [("joinery/ins.shapes", laid_joinery_ins_shapes)], narrowed := true }
def AsmBehindUptoSaid : Prop := asmBehindUptoRow.holds Tryd.pinned (OpenSpec.upto asmBehindSpec)

end Rows
end Go.Proofs.YtoiceinjademgaaDoor
