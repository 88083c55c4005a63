/-
  NARROWER THAN 'FOR EVERY INPUT', by the rows' own cells (each row's printed sentence says how): AllocSpills: laid · AllocPuts: laid · AllocCounts: laid · AllocTwice: laid · AllocSame: laid.
  DERIVED. THE GIVEN ROWS OF THIS SEAT. 5 by the template 'for every input the law returns true; each argument reads behind the call as it read before'; 0 by the template 'total and deterministic' (their statements: YtgdopmhgmpkahaaDoorTotals.lean).
  GIVEN WITH THE SEED: the statements are not yours to turn. If you find one false, say at which input.
  Laid BY PROGRAM, IN A SANDBOX (cutbox-rows.mjs): the forced cells as the released guide's own fill.sh prints them over the translation 897d5da082024516… (all of the seat's roots in one cut). By AI agents, Wed Nov 11 2026. No macro, syntax, notation, axiom, sorry.
-/
import Derived.Test.YtgdopmhgmpkahaaDoorChecked
import GoSem.Claim
import GoSem.ClaimJoined
import GoSem.ClaimMapViews
import Derived.JoinedTies
import Derived.KernelRfl
namespace Go.Proofs.YtgdopmhgmpkahaaDoor
/- THE CELL 'sum', in the pinned program and in every row, IS THE sha256 OF THE DUMP (.gsa) THAT YtgdopmhgmpkahaaDoorProg.lean LOADS. Nothing in Lean hashes anything: it is a label: what it is worth is what the hold of that sum in a sandbox is worth. -/
noncomputable def Tryd.pinned : Pinned := { name := "ytgdopmhgmpkahaadoor", sum := "897d5da082024516098bd64faee82faa371e21df9b29a8c083a416139f95e338", checked := Tryd.checked }
namespace Rows
def none {H : Type} : Left H := { results := [], args := [] }

/- WHAT THE LISTED PACKAGE-LEVEL VARIABLES READ AS WHEN THE CALL BEGINS. Each datum BY PROGRAM (the guide's laid-datum.mjs) off the statement by which the dump's own 'gosem.cut.vars' lays the variable. In a bare row this is a premise. The card (YtgdopmhgmpkahaaDoorCards.lean) ties it to the program's text. -/
def laid_joinery_ins_shapes {H : Type} : DataW H := .agg [.agg [.lit (.string [99, 111, 110, 115, 116]), .lit (.string [100, 78])], .agg [.lit (.string [109, 111, 118]), .lit (.string [100, 97])], .agg [.lit (.string [115, 119, 97, 112]), .lit (.string [100, 97])], .agg [.lit (.string [97, 100, 100]), .lit (.string [68, 65, 66])], .agg [.lit (.string [115, 117, 98]), .lit (.string [68, 65, 66])], .agg [.lit (.string [109, 117, 108]), .lit (.string [68, 65, 66])], .agg [.lit (.string [100, 105, 118]), .lit (.string [68, 65, 66])], .agg [.lit (.string [97, 110, 100]), .lit (.string [68, 65, 66])], .agg [.lit (.string [111, 114]), .lit (.string [68, 65, 66])], .agg [.lit (.string [120, 111, 114]), .lit (.string [68, 65, 66])], .agg [.lit (.string [108, 101, 115, 115]), .lit (.string [68, 65, 66])], .agg [.lit (.string [115, 97, 109, 101]), .lit (.string [68, 65, 66])], .agg [.lit (.string [108, 111, 97, 100]), .lit (.string [68, 65])], .agg [.lit (.string [115, 116, 111, 114, 101]), .lit (.string [65, 66])], .agg [.lit (.string [99, 97, 108, 108]), .lit (.string [68, 65, 78])], .agg [.lit (.string [106, 117, 109, 112]), .lit (.string [84])], .agg [.lit (.string [122, 101, 114, 111]), .lit (.string [65, 84])], .agg [.lit (.string [114, 101, 116]), .lit (.string [65])]]
def laid_joinery_value_open {H : Type} : DataW H := .agg [.lit (.int .i64 (-1)), .lit (.int .i64 0)]

/-- 'joinerylaw23.AllocSpills': WHATEVER THE INPUT: true; the input reads as it did. -/
def allocSpillsSpec : ChangeSpec := { name := "allocSpills", fn := fun _ => fun
  | [d] => { results := [.lit (.bool true)], args := [d] }
  | _ => none }
def allocSpillsRow : OpenClaim := { program := "ytgdopmhgmpkahaadoor", sum := "897d5da082024516098bd64faee82faa371e21df9b29a8c083a416139f95e338", func := "joinery/joinerylaw23.AllocSpills", spec := "allocSpills", unfollowed := true, recurses := true, named := ["joinery/ins.shapes"], plainKeys := false, apart := false, laid := [("joinery/ins.shapes", laid_joinery_ins_shapes)] }
def AllocSpillsSaid : Prop := allocSpillsRow.holds Tryd.pinned (OpenSpec.ofChange allocSpillsSpec)

/-- ITS FALSE NEIGHBOUR: 'it returns false'. Refute it at one input. -/
def allocSpillsWrong : ChangeSpec := { name := "allocSpills", fn := fun _ => fun
  | [d] => { results := [.lit (.bool false)], args := [d] }
  | _ => none }
def AllocSpillsWrongFalsely : Prop := allocSpillsRow.holds Tryd.pinned (OpenSpec.ofChange allocSpillsWrong)

/-- 'joinerylaw23.AllocPuts': WHATEVER THE INPUT: true; the input reads as it did. -/
def allocPutsSpec : ChangeSpec := { name := "allocPuts", fn := fun _ => fun
  | [d1, d2, d3] => { results := [.lit (.bool true)], args := [d1, d2, d3] }
  | _ => none }
def allocPutsRow : OpenClaim := { program := "ytgdopmhgmpkahaadoor", sum := "897d5da082024516098bd64faee82faa371e21df9b29a8c083a416139f95e338", func := "joinery/joinerylaw23.AllocPuts", spec := "allocPuts", unfollowed := true, recurses := true, named := ["joinery/ins.shapes"], plainKeys := false, apart := false, laid := [("joinery/ins.shapes", laid_joinery_ins_shapes)] }
def AllocPutsSaid : Prop := allocPutsRow.holds Tryd.pinned (OpenSpec.ofChange allocPutsSpec)

/-- ITS FALSE NEIGHBOUR: 'it returns false'. Refute it at one input. -/
def allocPutsWrong : ChangeSpec := { name := "allocPuts", fn := fun _ => fun
  | [d1, d2, d3] => { results := [.lit (.bool false)], args := [d1, d2, d3] }
  | _ => none }
def AllocPutsWrongFalsely : Prop := allocPutsRow.holds Tryd.pinned (OpenSpec.ofChange allocPutsWrong)

/-- 'joinerylaw23.AllocCounts': WHATEVER THE INPUT: true; the input reads as it did. -/
def allocCountsSpec : ChangeSpec := { name := "allocCounts", fn := fun _ => fun
  | [d1, d2, d3] => { results := [.lit (.bool true)], args := [d1, d2, d3] }
  | _ => none }
def allocCountsRow : OpenClaim := { program := "ytgdopmhgmpkahaadoor", sum := "897d5da082024516098bd64faee82faa371e21df9b29a8c083a416139f95e338", func := "joinery/joinerylaw23.AllocCounts", spec := "allocCounts", unfollowed := true, recurses := true, named := ["joinery/ins.shapes"], plainKeys := false, apart := false, laid := [("joinery/ins.shapes", laid_joinery_ins_shapes)] }
def AllocCountsSaid : Prop := allocCountsRow.holds Tryd.pinned (OpenSpec.ofChange allocCountsSpec)

/-- ITS FALSE NEIGHBOUR: 'it returns false'. Refute it at one input. -/
def allocCountsWrong : ChangeSpec := { name := "allocCounts", fn := fun _ => fun
  | [d1, d2, d3] => { results := [.lit (.bool false)], args := [d1, d2, d3] }
  | _ => none }
def AllocCountsWrongFalsely : Prop := allocCountsRow.holds Tryd.pinned (OpenSpec.ofChange allocCountsWrong)

/-- 'joinerylaw23.AllocTwice': WHATEVER THE INPUT: true; the input reads as it did. -/
def allocTwiceSpec : ChangeSpec := { name := "allocTwice", fn := fun _ => fun
  | [d1, d2, d3] => { results := [.lit (.bool true)], args := [d1, d2, d3] }
  | _ => none }
def allocTwiceRow : OpenClaim := { program := "ytgdopmhgmpkahaadoor", sum := "897d5da082024516098bd64faee82faa371e21df9b29a8c083a416139f95e338", func := "joinery/joinerylaw23.AllocTwice", spec := "allocTwice", unfollowed := true, recurses := true, named := ["joinery/ins.shapes"], plainKeys := false, apart := false, laid := [("joinery/ins.shapes", laid_joinery_ins_shapes)] }
def AllocTwiceSaid : Prop := allocTwiceRow.holds Tryd.pinned (OpenSpec.ofChange allocTwiceSpec)

/-- ITS FALSE NEIGHBOUR: 'it returns false'. Refute it at one input. -/
def allocTwiceWrong : ChangeSpec := { name := "allocTwice", fn := fun _ => fun
  | [d1, d2, d3] => { results := [.lit (.bool false)], args := [d1, d2, d3] }
  | _ => none }
def AllocTwiceWrongFalsely : Prop := allocTwiceRow.holds Tryd.pinned (OpenSpec.ofChange allocTwiceWrong)

/-- 'joinerylaw23.AllocSame': WHATEVER THE INPUT: true; the input reads as it did. -/
def allocSameSpec : ChangeSpec := { name := "allocSame", fn := fun _ => fun
  | [d1, d2] => { results := [.lit (.bool true)], args := [d1, d2] }
  | _ => none }
def allocSameRow : OpenClaim := { program := "ytgdopmhgmpkahaadoor", sum := "897d5da082024516098bd64faee82faa371e21df9b29a8c083a416139f95e338", func := "joinery/joinerylaw23.AllocSame", spec := "allocSame", unfollowed := true, recurses := true, named := ["joinery/ins.shapes", "joinery/value.open"], plainKeys := false, apart := false, laid := [("joinery/ins.shapes", laid_joinery_ins_shapes), ("joinery/value.open", laid_joinery_value_open)] }
def AllocSameSaid : Prop := allocSameRow.holds Tryd.pinned (OpenSpec.ofChange allocSameSpec)

/-- ITS FALSE NEIGHBOUR: 'it returns false'. Refute it at one input. -/
def allocSameWrong : ChangeSpec := { name := "allocSame", fn := fun _ => fun
  | [d1, d2] => { results := [.lit (.bool false)], args := [d1, d2] }
  | _ => none }
def AllocSameWrongFalsely : Prop := allocSameRow.holds Tryd.pinned (OpenSpec.ofChange allocSameWrong)

/- THE SECOND FORM. 'bulk': how many values and letters a reading holds, each counted each time it is reached (what is shared counts as often as it is met; a slice's spare places count too). A statement '..UptoSaid' is the law's where the arguments, and the package variables that the reading takes, are together of bulk at most 1048576: NARROWER than '..Said'. Prove '..Said' where nothing that the law and all that it calls make is longer than what came in: it says more and counts as full. Else prove '..UptoSaid'. A law counts once. -/
mutual
def uptoBulk {H : Type} : DataW H → Nat
  | .lit (.string bytes) => bytes.length + 1
  | .lit _ => 1
  | .nil => 1
  | .ptr d => uptoBulk d + 1
  | .slice elems spare => uptoBulkAll elems + uptoBulkAll spare + 1
  | .agg parts => uptoBulkAll parts + 1
  | .iface _ d => uptoBulk d + 1
  | .map entries => uptoBulkEntries entries + 1
  | .held _ => 1
def uptoBulkAll {H : Type} : List (DataW H) → Nat
  | [] => 0
  | d :: r => uptoBulk d + uptoBulkAll r
def uptoBulkEntries {H : Type} : List (Lit × DataW H) → Nat
  | [] => 0
  | x :: r => uptoBulkEntry x + uptoBulkEntries r
def uptoBulkEntry {H : Type} : Lit × DataW H → Nat
  | (.string bytes, d) => bytes.length + uptoBulk d + 1
  | (_, d) => uptoBulk d + 1
 end
def uptoSmall : (H : Type) → List (DataW H) → Bool := fun _ ds => decide (uptoBulkAll ds ≤ 1048576)
def OpenSpec.upto (s : _root_.Go.ChangeSpec) : _root_.Go.OpenSpec := { _root_.Go.OpenSpec.ofChange s with cond := some uptoSmall }

/-- 'joinerylaw23.AllocSpills', WHERE WHAT IT READS IS OF BULK AT MOST 1048576: true; the input reads as it did. -/
def allocSpillsUptoRow : OpenClaim := { program := "ytgdopmhgmpkahaadoor", sum := "897d5da082024516098bd64faee82faa371e21df9b29a8c083a416139f95e338", func := "joinery/joinerylaw23.AllocSpills", spec := "allocSpills", unfollowed := true, recurses := true, named := ["joinery/ins.shapes"], plainKeys := false, apart := false, laid := [("joinery/ins.shapes", laid_joinery_ins_shapes)], narrowed := true }
def AllocSpillsUptoSaid : Prop := allocSpillsUptoRow.holds Tryd.pinned (OpenSpec.upto allocSpillsSpec)

/-- 'joinerylaw23.AllocPuts', WHERE WHAT IT READS IS OF BULK AT MOST 1048576: true; the input reads as it did. -/
def allocPutsUptoRow : OpenClaim := { program := "ytgdopmhgmpkahaadoor", sum := "897d5da082024516098bd64faee82faa371e21df9b29a8c083a416139f95e338", func := "joinery/joinerylaw23.AllocPuts", spec := "allocPuts", unfollowed := true, recurses := true, named := ["joinery/ins.shapes"], plainKeys := false, apart := false, laid := [("joinery/ins.shapes", laid_joinery_ins_shapes)], narrowed := true }
def AllocPutsUptoSaid : Prop := allocPutsUptoRow.holds Tryd.pinned (OpenSpec.upto allocPutsSpec)

/-- 'joinerylaw23.AllocCounts', WHERE WHAT IT READS IS OF BULK AT MOST 1048576: true; the input reads as it did. -/
def allocCountsUptoRow : OpenClaim := { program := "ytgdopmhgmpkahaadoor", sum := "897d5da082024516098bd64faee82faa371e21df9b29a8c083a416139f95e338", func := "joinery/joinerylaw23.AllocCounts", spec := "allocCounts", unfollowed := true, recurses := true, named := ["joinery/ins.shapes"], plainKeys := false, apart := false, laid := [("joinery/ins.shapes", laid_joinery_ins_shapes)], narrowed := true }
def AllocCountsUptoSaid : Prop := allocCountsUptoRow.holds Tryd.pinned (OpenSpec.upto allocCountsSpec)

/-- 'joinerylaw23.AllocTwice', WHERE WHAT IT READS IS OF BULK AT MOST 1048576: true; the input reads as it did. -/
def allocTwiceUptoRow : OpenClaim := { program := "ytgdopmhgmpkahaadoor", sum := "897d5da082024516098bd64faee82faa371e21df9b29a8c083a416139f95e338", func := "joinery/joinerylaw23.AllocTwice", spec := "allocTwice", unfollowed := true, recurses := true, named := ["joinery/ins.shapes"], plainKeys := false, apart := false, laid := [("joinery/ins.shapes", laid_joinery_ins_shapes)], narrowed := true }
def AllocTwiceUptoSaid : Prop := allocTwiceUptoRow.holds Tryd.pinned (OpenSpec.upto allocTwiceSpec)

/-- 'joinerylaw23.AllocSame', WHERE WHAT IT READS IS OF BULK AT MOST 1048576: true; the input reads as it did. -/
def allocSameUptoRow : OpenClaim := { program := "ytgdopmhgmpkahaadoor", sum := "897d5da082024516098bd64faee82faa371e21df9b29a8c083a416139f95e338", func := "joinery/joinerylaw23.AllocSame", spec := "allocSame", unfollowed := true, recurses := true, named := ["joinery/ins.shapes", "joinery/value.open"], plainKeys := false, apart := false, laid := [("joinery/ins.shapes", laid_joinery_ins_shapes), ("joinery/value.open", laid_joinery_value_open)], narrowed := true }
def AllocSameUptoSaid : Prop := allocSameUptoRow.holds Tryd.pinned (OpenSpec.upto allocSameSpec)

end Rows
end Go.Proofs.YtgdopmhgmpkahaaDoor
