/-
  NARROWER THAN 'FOR EVERY INPUT', by the rows' own cells (each row's printed sentence says how): FindStays: laid · FindFirst: laid · FindSelf: laid · FindCounts: laid.
  DERIVED. THE GIVEN ROWS OF THIS SEAT. 4 by the template 'for every input the law returns true; each argument reads behind the call as it read before'; 0 by the template 'total and deterministic' (their statements: YtnbdpjhmepgoaaaDoorTotals.lean).
  GIVEN WITH THE SEED: the statements are not yours to turn. If you find one false, say at which input.
  Laid BY PROGRAM, IN A SANDBOX (cutbox-rows.mjs): the forced cells as the released guide's own fill.sh prints them over the translation 4c5431f5908c94e1… (all of the seat's roots in one cut). By AI agents, Wed Nov 11 2026. No macro, syntax, notation, axiom, sorry.
-/
import Derived.Test.YtnbdpjhmepgoaaaDoorChecked
import GoSem.Claim
import GoSem.ClaimJoined
import GoSem.ClaimMapViews
import Derived.JoinedTies
import Derived.KernelRfl
namespace Go.Proofs.YtnbdpjhmepgoaaaDoor
/- THE CELL 'sum', in the pinned program and in every row, IS THE sha256 OF THE DUMP (.gsa) THAT YtnbdpjhmepgoaaaDoorProg.lean LOADS. Nothing in Lean hashes anything: it is a label: what it is worth is what the hold of that sum in a sandbox is worth. -/
noncomputable def Tryd.pinned : Pinned := { name := "ytnbdpjhmepgoaaadoor", sum := "4c5431f5908c94e18a2ac8d58bb1359f15f0763f7f3c529368dbdae2a815c982", checked := Tryd.checked }
namespace Rows
def none {H : Type} : Left H := { results := [], args := [] }

/- WHAT THE LISTED PACKAGE-LEVEL VARIABLES READ AS WHEN THE CALL BEGINS. Each datum BY PROGRAM (the guide's laid-datum.mjs) off the statement by which the dump's own 'gosem.cut.vars' lays the variable. In a bare row this is a premise. The card (YtnbdpjhmepgoaaaDoorCards.lean) ties it to the program's text. -/
def laid_joinery_ins_shapes {H : Type} : DataW H := .agg [.agg [.lit (.string [99, 111, 110, 115, 116]), .lit (.string [100, 78])], .agg [.lit (.string [109, 111, 118]), .lit (.string [100, 97])], .agg [.lit (.string [115, 119, 97, 112]), .lit (.string [100, 97])], .agg [.lit (.string [97, 100, 100]), .lit (.string [68, 65, 66])], .agg [.lit (.string [115, 117, 98]), .lit (.string [68, 65, 66])], .agg [.lit (.string [109, 117, 108]), .lit (.string [68, 65, 66])], .agg [.lit (.string [100, 105, 118]), .lit (.string [68, 65, 66])], .agg [.lit (.string [97, 110, 100]), .lit (.string [68, 65, 66])], .agg [.lit (.string [111, 114]), .lit (.string [68, 65, 66])], .agg [.lit (.string [120, 111, 114]), .lit (.string [68, 65, 66])], .agg [.lit (.string [108, 101, 115, 115]), .lit (.string [68, 65, 66])], .agg [.lit (.string [115, 97, 109, 101]), .lit (.string [68, 65, 66])], .agg [.lit (.string [108, 111, 97, 100]), .lit (.string [68, 65])], .agg [.lit (.string [115, 116, 111, 114, 101]), .lit (.string [65, 66])], .agg [.lit (.string [99, 97, 108, 108]), .lit (.string [68, 65, 78])], .agg [.lit (.string [106, 117, 109, 112]), .lit (.string [84])], .agg [.lit (.string [122, 101, 114, 111]), .lit (.string [65, 84])], .agg [.lit (.string [114, 101, 116]), .lit (.string [65])]]

/-- 'joinerylaw19.FindStays': WHATEVER THE INPUT: true; the input reads as it did. -/
def findStaysSpec : ChangeSpec := { name := "findStays", fn := fun _ => fun
  | [d1, d2, d3, d4] => { results := [.lit (.bool true)], args := [d1, d2, d3, d4] }
  | _ => none }
def findStaysRow : OpenClaim := { program := "ytnbdpjhmepgoaaadoor", sum := "4c5431f5908c94e18a2ac8d58bb1359f15f0763f7f3c529368dbdae2a815c982", func := "joinery/joinerylaw19.FindStays", spec := "findStays", unfollowed := true, recurses := true, named := ["joinery/ins.shapes"], apart := false, laid := [("joinery/ins.shapes", laid_joinery_ins_shapes)] }
def FindStaysSaid : Prop := findStaysRow.holds Tryd.pinned (OpenSpec.ofChange findStaysSpec)

/-- ITS FALSE NEIGHBOUR: 'it returns false'. Refute it at one input. -/
def findStaysWrong : ChangeSpec := { name := "findStays", fn := fun _ => fun
  | [d1, d2, d3, d4] => { results := [.lit (.bool false)], args := [d1, d2, d3, d4] }
  | _ => none }
def FindStaysWrongFalsely : Prop := findStaysRow.holds Tryd.pinned (OpenSpec.ofChange findStaysWrong)

/-- 'joinerylaw19.FindFirst': WHATEVER THE INPUT: true; the input reads as it did. -/
def findFirstSpec : ChangeSpec := { name := "findFirst", fn := fun _ => fun
  | [d1, d2, d3] => { results := [.lit (.bool true)], args := [d1, d2, d3] }
  | _ => none }
def findFirstRow : OpenClaim := { program := "ytnbdpjhmepgoaaadoor", sum := "4c5431f5908c94e18a2ac8d58bb1359f15f0763f7f3c529368dbdae2a815c982", func := "joinery/joinerylaw19.FindFirst", spec := "findFirst", unfollowed := true, recurses := true, named := ["joinery/ins.shapes"], apart := false, laid := [("joinery/ins.shapes", laid_joinery_ins_shapes)] }
def FindFirstSaid : Prop := findFirstRow.holds Tryd.pinned (OpenSpec.ofChange findFirstSpec)

/-- ITS FALSE NEIGHBOUR: 'it returns false'. Refute it at one input. -/
def findFirstWrong : ChangeSpec := { name := "findFirst", fn := fun _ => fun
  | [d1, d2, d3] => { results := [.lit (.bool false)], args := [d1, d2, d3] }
  | _ => none }
def FindFirstWrongFalsely : Prop := findFirstRow.holds Tryd.pinned (OpenSpec.ofChange findFirstWrong)

/-- 'joinerylaw19.FindSelf': WHATEVER THE INPUT: true; the input reads as it did. -/
def findSelfSpec : ChangeSpec := { name := "findSelf", fn := fun _ => fun
  | [d1, d2] => { results := [.lit (.bool true)], args := [d1, d2] }
  | _ => none }
def findSelfRow : OpenClaim := { program := "ytnbdpjhmepgoaaadoor", sum := "4c5431f5908c94e18a2ac8d58bb1359f15f0763f7f3c529368dbdae2a815c982", func := "joinery/joinerylaw19.FindSelf", spec := "findSelf", unfollowed := true, recurses := true, named := ["joinery/ins.shapes"], apart := false, laid := [("joinery/ins.shapes", laid_joinery_ins_shapes)] }
def FindSelfSaid : Prop := findSelfRow.holds Tryd.pinned (OpenSpec.ofChange findSelfSpec)

/-- ITS FALSE NEIGHBOUR: 'it returns false'. Refute it at one input. -/
def findSelfWrong : ChangeSpec := { name := "findSelf", fn := fun _ => fun
  | [d1, d2] => { results := [.lit (.bool false)], args := [d1, d2] }
  | _ => none }
def FindSelfWrongFalsely : Prop := findSelfRow.holds Tryd.pinned (OpenSpec.ofChange findSelfWrong)

/-- 'joinerylaw19.FindCounts': WHATEVER THE INPUT: true; the input reads as it did. -/
def findCountsSpec : ChangeSpec := { name := "findCounts", fn := fun _ => fun
  | [d1, d2, d3] => { results := [.lit (.bool true)], args := [d1, d2, d3] }
  | _ => none }
def findCountsRow : OpenClaim := { program := "ytnbdpjhmepgoaaadoor", sum := "4c5431f5908c94e18a2ac8d58bb1359f15f0763f7f3c529368dbdae2a815c982", func := "joinery/joinerylaw19.FindCounts", spec := "findCounts", unfollowed := true, recurses := true, named := ["joinery/ins.shapes"], apart := false, laid := [("joinery/ins.shapes", laid_joinery_ins_shapes)] }
def FindCountsSaid : Prop := findCountsRow.holds Tryd.pinned (OpenSpec.ofChange findCountsSpec)

/-- ITS FALSE NEIGHBOUR: 'it returns false'. Refute it at one input. -/
def findCountsWrong : ChangeSpec := { name := "findCounts", fn := fun _ => fun
  | [d1, d2, d3] => { results := [.lit (.bool false)], args := [d1, d2, d3] }
  | _ => none }
def FindCountsWrongFalsely : Prop := findCountsRow.holds Tryd.pinned (OpenSpec.ofChange findCountsWrong)

/- THE SECOND FORM. 'bulk': how many values and letters a reading holds, each counted each time it is reached (what is shared counts as often as it is met; a slice's spare places count too). A statement '..UptoSaid' is the law's where the arguments, and the package variables that the reading takes, are together of bulk at most 1048576: NARROWER than '..Said'. Prove '..Said' where nothing that the law and all that it calls make is longer than what came in: it says more and counts as full. Else prove '..UptoSaid'. A law counts once. -/
mutual
def uptoBulk {H : Type} : DataW H → Nat
  | .lit (.string bytes) => bytes.length + 1
  | .lit _ => 1
  | .nil => 1
  | .ptr d => uptoBulk d + 1
  | .slice elems spare => uptoBulkAll elems + uptoBulkAll spare + 1
  | .agg parts => uptoBulkAll parts + 1
  | .iface _ d => uptoBulk d + 1
  | .map entries => uptoBulkEntries entries + 1
  | .held _ => 1
def uptoBulkAll {H : Type} : List (DataW H) → Nat
  | [] => 0
  | d :: r => uptoBulk d + uptoBulkAll r
def uptoBulkEntries {H : Type} : List (Lit × DataW H) → Nat
  | [] => 0
  | x :: r => uptoBulkEntry x + uptoBulkEntries r
def uptoBulkEntry {H : Type} : Lit × DataW H → Nat
  | (.string bytes, d) => bytes.length + uptoBulk d + 1
  | (_, d) => uptoBulk d + 1
 end
def uptoSmall : (H : Type) → List (DataW H) → Bool := fun _ ds => decide (uptoBulkAll ds ≤ 1048576)
def OpenSpec.upto (s : _root_.Go.ChangeSpec) : _root_.Go.OpenSpec := { _root_.Go.OpenSpec.ofChange s with cond := some uptoSmall }

/-- 'joinerylaw19.FindStays', WHERE WHAT IT READS IS OF BULK AT MOST 1048576: true; the input reads as it did. -/
def findStaysUptoRow : OpenClaim := { program := "ytnbdpjhmepgoaaadoor", sum := "4c5431f5908c94e18a2ac8d58bb1359f15f0763f7f3c529368dbdae2a815c982", func := "joinery/joinerylaw19.FindStays", spec := "findStays", unfollowed := true, recurses := true, named := ["joinery/ins.shapes"], apart := false, laid := [("joinery/ins.shapes", laid_joinery_ins_shapes)], narrowed := true }
def FindStaysUptoSaid : Prop := findStaysUptoRow.holds Tryd.pinned (OpenSpec.upto findStaysSpec)

/-- 'joinerylaw19.FindFirst', WHERE WHAT IT READS IS OF BULK AT MOST 1048576: true; the input reads as it did. -/
def findFirstUptoRow : OpenClaim := { program := "ytnbdpjhmepgoaaadoor", sum := "4c5431f5908c94e18a2ac8d58bb1359f15f0763f7f3c529368dbdae2a815c982", func := "joinery/joinerylaw19.FindFirst", spec := "findFirst", unfollowed := true, recurses := true, named := ["joinery/ins.shapes"], apart := false, laid := [("joinery/ins.shapes", laid_joinery_ins_shapes)], narrowed := true }
def FindFirstUptoSaid : Prop := findFirstUptoRow.holds Tryd.pinned (OpenSpec.upto findFirstSpec)

/-- 'joinerylaw19.FindSelf', WHERE WHAT IT READS IS OF BULK AT MOST 1048576: true; the input reads as it did. -/
def findSelfUptoRow : OpenClaim := { program := "ytnbdpjhmepgoaaadoor", sum := "4c5431f5908c94e18a2ac8d58bb1359f15f0763f7f3c529368dbdae2a815c982", func := "joinery/joinerylaw19.FindSelf", spec := "findSelf", unfollowed := true, recurses := true, named := ["joinery/ins.shapes"], apart := false, laid := [("joinery/ins.shapes", laid_joinery_ins_shapes)], narrowed := true }
def FindSelfUptoSaid : Prop := findSelfUptoRow.holds Tryd.pinned (OpenSpec.upto findSelfSpec)

/-- 'joinerylaw19.FindCounts', WHERE WHAT IT READS IS OF BULK AT MOST 1048576: true; the input reads as it did. -/
def findCountsUptoRow : OpenClaim := { program := "ytnbdpjhmepgoaaadoor", sum := "4c5431f5908c94e18a2ac8d58bb1359f15f0763f7f3c529368dbdae2a815c982", func := "joinery/joinerylaw19.FindCounts", spec := "findCounts", unfollowed := true, recurses := true, named := ["joinery/ins.shapes"], apart := false, laid := [("joinery/ins.shapes", laid_joinery_ins_shapes)], narrowed := true }
def FindCountsUptoSaid : Prop := findCountsUptoRow.holds Tryd.pinned (OpenSpec.upto findCountsSpec)

end Rows
end Go.Proofs.YtnbdpjhmepgoaaaDoor
