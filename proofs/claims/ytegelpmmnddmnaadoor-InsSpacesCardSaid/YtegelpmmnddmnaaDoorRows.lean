/-
  NARROWER THAN 'FOR EVERY INPUT', by the rows' own cells (each row's printed sentence says how): InsChecks: laid · InsPrints: laid · InsParses: laid · InsTells: laid · InsBack: laid · InsApart: laid · InsGrows: laid · InsPlaces: laid · InsSpaces: laid.
  DERIVED. THE GIVEN ROWS OF THIS SEAT. 9 by the template 'for every input the law returns true; each argument reads behind the call as it read before'; 0 by the template 'total and deterministic' (their statements: YtegelpmmnddmnaaDoorTotals.lean).
  GIVEN WITH THE SEED: the statements are not yours to turn. If you find one false, say at which input.
  Laid BY PROGRAM, IN A SANDBOX (cutbox-rows.mjs): the forced cells as the released guide's own fill.sh prints them over the translation 5277eb8d01367377… (all of the seat's roots in one cut). By AI agents, Wed Nov 11 2026. No macro, syntax, notation, axiom, sorry.
-/
import Derived.Test.YtegelpmmnddmnaaDoorChecked
import GoSem.Claim
import GoSem.ClaimJoined
import GoSem.ClaimMapViews
import Derived.JoinedTies
import Derived.KernelRfl
namespace Go.Proofs.YtegelpmmnddmnaaDoor
/- THE CELL 'sum', in the pinned program and in every row, IS THE sha256 OF THE DUMP (.gsa) THAT YtegelpmmnddmnaaDoorProg.lean LOADS. Nothing in Lean hashes anything: it is a label: what it is worth is what the hold of that sum in a sandbox is worth. -/
noncomputable def Tryd.pinned : Pinned := { name := "ytegelpmmnddmnaadoor", sum := "5277eb8d01367377547f1819113006ee3fec3be09a0cf22015c9e2d19c6c6e03", checked := Tryd.checked }
namespace Rows
def none {H : Type} : Left H := { results := [], args := [] }

/- WHAT THE LISTED PACKAGE-LEVEL VARIABLES READ AS WHEN THE CALL BEGINS. Each datum BY PROGRAM (the guide's laid-datum.mjs) off the statement by which the dump's own 'gosem.cut.vars' lays the variable. In a bare row this is a premise. The card (YtegelpmmnddmnaaDoorCards.lean) ties it to the program's text. -/
def laid_joinery_ins_shapes {H : Type} : DataW H := .agg [.agg [.lit (.string [99, 111, 110, 115, 116]), .lit (.string [100, 78])], .agg [.lit (.string [109, 111, 118]), .lit (.string [100, 97])], .agg [.lit (.string [115, 119, 97, 112]), .lit (.string [100, 97])], .agg [.lit (.string [97, 100, 100]), .lit (.string [68, 65, 66])], .agg [.lit (.string [115, 117, 98]), .lit (.string [68, 65, 66])], .agg [.lit (.string [109, 117, 108]), .lit (.string [68, 65, 66])], .agg [.lit (.string [100, 105, 118]), .lit (.string [68, 65, 66])], .agg [.lit (.string [97, 110, 100]), .lit (.string [68, 65, 66])], .agg [.lit (.string [111, 114]), .lit (.string [68, 65, 66])], .agg [.lit (.string [120, 111, 114]), .lit (.string [68, 65, 66])], .agg [.lit (.string [108, 101, 115, 115]), .lit (.string [68, 65, 66])], .agg [.lit (.string [115, 97, 109, 101]), .lit (.string [68, 65, 66])], .agg [.lit (.string [108, 111, 97, 100]), .lit (.string [68, 65])], .agg [.lit (.string [115, 116, 111, 114, 101]), .lit (.string [65, 66])], .agg [.lit (.string [99, 97, 108, 108]), .lit (.string [68, 65, 78])], .agg [.lit (.string [106, 117, 109, 112]), .lit (.string [84])], .agg [.lit (.string [122, 101, 114, 111]), .lit (.string [65, 84])], .agg [.lit (.string [114, 101, 116]), .lit (.string [65])]]

/-- 'joinerylaw03.InsChecks': WHATEVER THE INPUT: true; the input reads as it did. -/
def insChecksSpec : ChangeSpec := { name := "insChecks", fn := fun _ => fun
  | [d1, d2] => { results := [.lit (.bool true)], args := [d1, d2] }
  | _ => none }
def insChecksRow : OpenClaim := { program := "ytegelpmmnddmnaadoor", sum := "5277eb8d01367377547f1819113006ee3fec3be09a0cf22015c9e2d19c6c6e03", func := "joinery/joinerylaw03.InsChecks", spec := "insChecks", named := ["joinery/ins.shapes"], apart := false, laid := [("joinery/ins.shapes", laid_joinery_ins_shapes)] }
def InsChecksSaid : Prop := insChecksRow.holds Tryd.pinned (OpenSpec.ofChange insChecksSpec)

/-- ITS FALSE NEIGHBOUR: 'it returns false'. Refute it at one input. -/
def insChecksWrong : ChangeSpec := { name := "insChecks", fn := fun _ => fun
  | [d1, d2] => { results := [.lit (.bool false)], args := [d1, d2] }
  | _ => none }
def InsChecksWrongFalsely : Prop := insChecksRow.holds Tryd.pinned (OpenSpec.ofChange insChecksWrong)

/-- 'joinerylaw03.InsPrints': WHATEVER THE INPUT: true; the input reads as it did. -/
def insPrintsSpec : ChangeSpec := { name := "insPrints", fn := fun _ => fun
  | [d] => { results := [.lit (.bool true)], args := [d] }
  | _ => none }
def insPrintsRow : OpenClaim := { program := "ytegelpmmnddmnaadoor", sum := "5277eb8d01367377547f1819113006ee3fec3be09a0cf22015c9e2d19c6c6e03", func := "joinery/joinerylaw03.InsPrints", spec := "insPrints", recurses := true, named := ["joinery/ins.shapes"], apart := false, laid := [("joinery/ins.shapes", laid_joinery_ins_shapes)] }
def InsPrintsSaid : Prop := insPrintsRow.holds Tryd.pinned (OpenSpec.ofChange insPrintsSpec)

/-- ITS FALSE NEIGHBOUR: 'it returns false'. Refute it at one input. -/
def insPrintsWrong : ChangeSpec := { name := "insPrints", fn := fun _ => fun
  | [d] => { results := [.lit (.bool false)], args := [d] }
  | _ => none }
def InsPrintsWrongFalsely : Prop := insPrintsRow.holds Tryd.pinned (OpenSpec.ofChange insPrintsWrong)

/-- 'joinerylaw03.InsParses': WHATEVER THE INPUT: true; the input reads as it did. -/
def insParsesSpec : ChangeSpec := { name := "insParses", fn := fun _ => fun
  | [d] => { results := [.lit (.bool true)], args := [d] }
  | _ => none }
def insParsesRow : OpenClaim := { program := "ytegelpmmnddmnaadoor", sum := "5277eb8d01367377547f1819113006ee3fec3be09a0cf22015c9e2d19c6c6e03", func := "joinery/joinerylaw03.InsParses", spec := "insParses", recurses := true, named := ["joinery/ins.shapes"], apart := false, laid := [("joinery/ins.shapes", laid_joinery_ins_shapes)] }
def InsParsesSaid : Prop := insParsesRow.holds Tryd.pinned (OpenSpec.ofChange insParsesSpec)

/-- ITS FALSE NEIGHBOUR: 'it returns false'. Refute it at one input. -/
def insParsesWrong : ChangeSpec := { name := "insParses", fn := fun _ => fun
  | [d] => { results := [.lit (.bool false)], args := [d] }
  | _ => none }
def InsParsesWrongFalsely : Prop := insParsesRow.holds Tryd.pinned (OpenSpec.ofChange insParsesWrong)

/-- 'joinerylaw03.InsTells': WHATEVER THE INPUT: true; the input reads as it did. -/
def insTellsSpec : ChangeSpec := { name := "insTells", fn := fun _ => fun
  | [d] => { results := [.lit (.bool true)], args := [d] }
  | _ => none }
def insTellsRow : OpenClaim := { program := "ytegelpmmnddmnaadoor", sum := "5277eb8d01367377547f1819113006ee3fec3be09a0cf22015c9e2d19c6c6e03", func := "joinery/joinerylaw03.InsTells", spec := "insTells", named := ["joinery/ins.shapes"], apart := false, laid := [("joinery/ins.shapes", laid_joinery_ins_shapes)] }
def InsTellsSaid : Prop := insTellsRow.holds Tryd.pinned (OpenSpec.ofChange insTellsSpec)

/-- ITS FALSE NEIGHBOUR: 'it returns false'. Refute it at one input. -/
def insTellsWrong : ChangeSpec := { name := "insTells", fn := fun _ => fun
  | [d] => { results := [.lit (.bool false)], args := [d] }
  | _ => none }
def InsTellsWrongFalsely : Prop := insTellsRow.holds Tryd.pinned (OpenSpec.ofChange insTellsWrong)

/-- 'joinerylaw03.InsBack': WHATEVER THE INPUT: true; the input reads as it did. -/
def insBackSpec : ChangeSpec := { name := "insBack", fn := fun _ => fun
  | [d1, d2] => { results := [.lit (.bool true)], args := [d1, d2] }
  | _ => none }
def insBackRow : OpenClaim := { program := "ytegelpmmnddmnaadoor", sum := "5277eb8d01367377547f1819113006ee3fec3be09a0cf22015c9e2d19c6c6e03", func := "joinery/joinerylaw03.InsBack", spec := "insBack", named := ["joinery/ins.shapes"], apart := false, laid := [("joinery/ins.shapes", laid_joinery_ins_shapes)] }
def InsBackSaid : Prop := insBackRow.holds Tryd.pinned (OpenSpec.ofChange insBackSpec)

/-- ITS FALSE NEIGHBOUR: 'it returns false'. Refute it at one input. -/
def insBackWrong : ChangeSpec := { name := "insBack", fn := fun _ => fun
  | [d1, d2] => { results := [.lit (.bool false)], args := [d1, d2] }
  | _ => none }
def InsBackWrongFalsely : Prop := insBackRow.holds Tryd.pinned (OpenSpec.ofChange insBackWrong)

/-- 'joinerylaw03.InsApart': WHATEVER THE INPUT: true; the input reads as it did. -/
def insApartSpec : ChangeSpec := { name := "insApart", fn := fun _ => fun
  | [d1, d2] => { results := [.lit (.bool true)], args := [d1, d2] }
  | _ => none }
def insApartRow : OpenClaim := { program := "ytegelpmmnddmnaadoor", sum := "5277eb8d01367377547f1819113006ee3fec3be09a0cf22015c9e2d19c6c6e03", func := "joinery/joinerylaw03.InsApart", spec := "insApart", named := ["joinery/ins.shapes"], apart := false, laid := [("joinery/ins.shapes", laid_joinery_ins_shapes)] }
def InsApartSaid : Prop := insApartRow.holds Tryd.pinned (OpenSpec.ofChange insApartSpec)

/-- ITS FALSE NEIGHBOUR: 'it returns false'. Refute it at one input. -/
def insApartWrong : ChangeSpec := { name := "insApart", fn := fun _ => fun
  | [d1, d2] => { results := [.lit (.bool false)], args := [d1, d2] }
  | _ => none }
def InsApartWrongFalsely : Prop := insApartRow.holds Tryd.pinned (OpenSpec.ofChange insApartWrong)

/-- 'joinerylaw03.InsGrows': WHATEVER THE INPUT: true; the input reads as it did. -/
def insGrowsSpec : ChangeSpec := { name := "insGrows", fn := fun _ => fun
  | [d1, d2, d3] => { results := [.lit (.bool true)], args := [d1, d2, d3] }
  | _ => none }
def insGrowsRow : OpenClaim := { program := "ytegelpmmnddmnaadoor", sum := "5277eb8d01367377547f1819113006ee3fec3be09a0cf22015c9e2d19c6c6e03", func := "joinery/joinerylaw03.InsGrows", spec := "insGrows", named := ["joinery/ins.shapes"], apart := false, laid := [("joinery/ins.shapes", laid_joinery_ins_shapes)] }
def InsGrowsSaid : Prop := insGrowsRow.holds Tryd.pinned (OpenSpec.ofChange insGrowsSpec)

/-- ITS FALSE NEIGHBOUR: 'it returns false'. Refute it at one input. -/
def insGrowsWrong : ChangeSpec := { name := "insGrows", fn := fun _ => fun
  | [d1, d2, d3] => { results := [.lit (.bool false)], args := [d1, d2, d3] }
  | _ => none }
def InsGrowsWrongFalsely : Prop := insGrowsRow.holds Tryd.pinned (OpenSpec.ofChange insGrowsWrong)

/-- 'joinerylaw03.InsPlaces': WHATEVER THE INPUT: true; the input reads as it did. -/
def insPlacesSpec : ChangeSpec := { name := "insPlaces", fn := fun _ => fun
  | [d] => { results := [.lit (.bool true)], args := [d] }
  | _ => none }
def insPlacesRow : OpenClaim := { program := "ytegelpmmnddmnaadoor", sum := "5277eb8d01367377547f1819113006ee3fec3be09a0cf22015c9e2d19c6c6e03", func := "joinery/joinerylaw03.InsPlaces", spec := "insPlaces", named := ["joinery/ins.shapes"], apart := false, laid := [("joinery/ins.shapes", laid_joinery_ins_shapes)] }
def InsPlacesSaid : Prop := insPlacesRow.holds Tryd.pinned (OpenSpec.ofChange insPlacesSpec)

/-- ITS FALSE NEIGHBOUR: 'it returns false'. Refute it at one input. -/
def insPlacesWrong : ChangeSpec := { name := "insPlaces", fn := fun _ => fun
  | [d] => { results := [.lit (.bool false)], args := [d] }
  | _ => none }
def InsPlacesWrongFalsely : Prop := insPlacesRow.holds Tryd.pinned (OpenSpec.ofChange insPlacesWrong)

/-- 'joinerylaw03.InsSpaces': WHATEVER THE INPUT: true; the input reads as it did. -/
def insSpacesSpec : ChangeSpec := { name := "insSpaces", fn := fun _ => fun
  | [d1, d2] => { results := [.lit (.bool true)], args := [d1, d2] }
  | _ => none }
def insSpacesRow : OpenClaim := { program := "ytegelpmmnddmnaadoor", sum := "5277eb8d01367377547f1819113006ee3fec3be09a0cf22015c9e2d19c6c6e03", func := "joinery/joinerylaw03.InsSpaces", spec := "insSpaces", named := ["joinery/ins.shapes"], apart := false, laid := [("joinery/ins.shapes", laid_joinery_ins_shapes)] }
def InsSpacesSaid : Prop := insSpacesRow.holds Tryd.pinned (OpenSpec.ofChange insSpacesSpec)

/-- ITS FALSE NEIGHBOUR: 'it returns false'. Refute it at one input. -/
def insSpacesWrong : ChangeSpec := { name := "insSpaces", fn := fun _ => fun
  | [d1, d2] => { results := [.lit (.bool false)], args := [d1, d2] }
  | _ => none }
def InsSpacesWrongFalsely : Prop := insSpacesRow.holds Tryd.pinned (OpenSpec.ofChange insSpacesWrong)

/- THE SECOND FORM. 'bulk': how many values and letters a reading holds, each counted each time it is reached (what is shared counts as often as it is met; a slice's spare places count too). A statement '..UptoSaid' is the law's where the arguments, and the package variables that the reading takes, are together of bulk at most 1048576: NARROWER than '..Said'. Prove '..Said' where nothing that the law and all that it calls make is longer than what came in: it says more and counts as full. Else prove '..UptoSaid'. A law counts once. -/
mutual
def uptoBulk {H : Type} : DataW H → Nat
  | .lit (.string bytes) => bytes.length + 1
  | .lit _ => 1
  | .nil => 1
  | .ptr d => uptoBulk d + 1
  | .slice elems spare => uptoBulkAll elems + uptoBulkAll spare + 1
  | .agg parts => uptoBulkAll parts + 1
  | .iface _ d => uptoBulk d + 1
  | .map entries => uptoBulkEntries entries + 1
  | .held _ => 1
def uptoBulkAll {H : Type} : List (DataW H) → Nat
  | [] => 0
  | d :: r => uptoBulk d + uptoBulkAll r
def uptoBulkEntries {H : Type} : List (Lit × DataW H) → Nat
  | [] => 0
  | x :: r => uptoBulkEntry x + uptoBulkEntries r
def uptoBulkEntry {H : Type} : Lit × DataW H → Nat
  | (.string bytes, d) => bytes.length + uptoBulk d + 1
  | (_, d) => uptoBulk d + 1
 end
def uptoSmall : (H : Type) → List (DataW H) → Bool := fun _ ds => decide (uptoBulkAll ds ≤ 1048576)
def OpenSpec.upto (s : _root_.Go.ChangeSpec) : _root_.Go.OpenSpec := { _root_.Go.OpenSpec.ofChange s with cond := some uptoSmall }

/-- 'joinerylaw03.InsChecks', WHERE WHAT IT READS IS OF BULK AT MOST 1048576: true; the input reads as it did. -/
def insChecksUptoRow : OpenClaim := { program := "ytegelpmmnddmnaadoor", sum := "5277eb8d01367377547f1819113006ee3fec3be09a0cf22015c9e2d19c6c6e03", func := "joinery/joinerylaw03.InsChecks", spec := "insChecks", named := ["joinery/ins.shapes"], apart := false, laid := [("joinery/ins.shapes", laid_joinery_ins_shapes)], narrowed := true }
def InsChecksUptoSaid : Prop := insChecksUptoRow.holds Tryd.pinned (OpenSpec.upto insChecksSpec)

/-- 'joinerylaw03.InsPrints', WHERE WHAT IT READS IS OF BULK AT MOST 1048576: true; the input reads as it did. -/
def insPrintsUptoRow : OpenClaim := { program := "ytegelpmmnddmnaadoor", sum := "5277eb8d01367377547f1819113006ee3fec3be09a0cf22015c9e2d19c6c6e03", func := "joinery/joinerylaw03.InsPrints", spec := "insPrints", recurses := true, named := ["joinery/ins.shapes"], apart := false, laid := [("joinery/ins.shapes", laid_joinery_ins_shapes)], narrowed := true }
def InsPrintsUptoSaid : Prop := insPrintsUptoRow.holds Tryd.pinned (OpenSpec.upto insPrintsSpec)

/-- 'joinerylaw03.InsParses', WHERE WHAT IT READS IS OF BULK AT MOST 1048576: true; the input reads as it did. -/
def insParsesUptoRow : OpenClaim := { program := "ytegelpmmnddmnaadoor", sum := "5277eb8d01367377547f1819113006ee3fec3be09a0cf22015c9e2d19c6c6e03", func := "joinery/joinerylaw03.InsParses", spec := "insParses", recurses := true, named := ["joinery/ins.shapes"], apart := false, laid := [("joinery/ins.shapes", laid_joinery_ins_shapes)], narrowed := true }
def InsParsesUptoSaid : Prop := insParsesUptoRow.holds Tryd.pinned (OpenSpec.upto insParsesSpec)

/-- 'joinerylaw03.InsTells', WHERE WHAT IT READS IS OF BULK AT MOST 1048576: true; the input reads as it did. -/
def insTellsUptoRow : OpenClaim := { program := "ytegelpmmnddmnaadoor", sum := "5277eb8d01367377547f1819113006ee3fec3be09a0cf22015c9e2d19c6c6e03", func := "joinery/joinerylaw03.InsTells", spec := "insTells", named := ["joinery/ins.shapes"], apart := false, laid := [("joinery/ins.shapes", laid_joinery_ins_shapes)], narrowed := true }
def InsTellsUptoSaid : Prop := insTellsUptoRow.holds Tryd.pinned (OpenSpec.upto insTellsSpec)

/-- 'joinerylaw03.InsBack', WHERE WHAT IT READS IS OF BULK AT MOST 1048576: true; the input reads as it did. -/
def insBackUptoRow : OpenClaim := { program := "ytegelpmmnddmnaadoor", sum := "5277eb8d01367377547f1819113006ee3fec3be09a0cf22015c9e2d19c6c6e03", func := "joinery/joinerylaw03.InsBack", spec := "insBack", named := ["joinery/ins.shapes"], apart := false, laid := [("joinery/ins.shapes", laid_joinery_ins_shapes)], narrowed := true }
def InsBackUptoSaid : Prop := insBackUptoRow.holds Tryd.pinned (OpenSpec.upto insBackSpec)

/-- 'joinerylaw03.InsApart', WHERE WHAT IT READS IS OF BULK AT MOST 1048576: true; the input reads as it did. -/
def insApartUptoRow : OpenClaim := { program := "ytegelpmmnddmnaadoor", sum := "5277eb8d01367377547f1819113006ee3fec3be09a0cf22015c9e2d19c6c6e03", func := "joinery/joinerylaw03.InsApart", spec := "insApart", named := ["joinery/ins.shapes"], apart := false, laid := [("joinery/ins.shapes", laid_joinery_ins_shapes)], narrowed := true }
def InsApartUptoSaid : Prop := insApartUptoRow.holds Tryd.pinned (OpenSpec.upto insApartSpec)

/-- 'joinerylaw03.InsGrows', WHERE WHAT IT READS IS OF BULK AT MOST 1048576: true; the input reads as it did. -/
def insGrowsUptoRow : OpenClaim := { program := "ytegelpmmnddmnaadoor", sum := "5277eb8d01367377547f1819113006ee3fec3be09a0cf22015c9e2d19c6c6e03", func := "joinery/joinerylaw03.InsGrows", spec := "insGrows", named := ["joinery/ins.shapes"], apart := false, laid := [("joinery/ins.shapes", laid_joinery_ins_shapes)], narrowed := true }
def InsGrowsUptoSaid : Prop := insGrowsUptoRow.holds Tryd.pinned (OpenSpec.upto insGrowsSpec)

/-- 'joinerylaw03.InsPlaces', WHERE WHAT IT READS IS OF BULK AT MOST 1048576: true; the input reads as it did. -/
def insPlacesUptoRow : OpenClaim := { program := "ytegelpmmnddmnaadoor", sum := "5277eb8d01367377547f1819113006ee3fec3be09a0cf22015c9e2d19c6c6e03", func := "joinery/joinerylaw03.InsPlaces", spec := "insPlaces", named := ["joinery/ins.shapes"], apart := false, laid := [("joinery/ins.shapes", laid_joinery_ins_shapes)], narrowed := true }
def InsPlacesUptoSaid : Prop := insPlacesUptoRow.holds Tryd.pinned (OpenSpec.upto insPlacesSpec)

/-- 'joinerylaw03.InsSpaces', WHERE WHAT IT READS IS OF BULK AT MOST 1048576: true; the input reads as it did. -/
def insSpacesUptoRow : OpenClaim := { program := "ytegelpmmnddmnaadoor", sum := "5277eb8d01367377547f1819113006ee3fec3be09a0cf22015c9e2d19c6c6e03", func := "joinery/joinerylaw03.InsSpaces", spec := "insSpaces", named := ["joinery/ins.shapes"], apart := false, laid := [("joinery/ins.shapes", laid_joinery_ins_shapes)], narrowed := true }
def InsSpacesUptoSaid : Prop := insSpacesUptoRow.holds Tryd.pinned (OpenSpec.upto insSpacesSpec)

end Rows
end Go.Proofs.YtegelpmmnddmnaaDoor
