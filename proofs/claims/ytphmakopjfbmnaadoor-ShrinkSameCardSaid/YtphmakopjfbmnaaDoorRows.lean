/-
  NARROWER THAN 'FOR EVERY INPUT', by the rows' own cells (each row's printed sentence says how): ShrinkKeeps: laid · ShrinkLeast: laid · ShrinkSwaps: laid · ShrinkSame: laid.
  DERIVED. THE GIVEN ROWS OF THIS SEAT. 4 by the template 'for every input the law returns true; each argument reads behind the call as it read before'; 0 by the template 'total and deterministic' (their statements: YtphmakopjfbmnaaDoorTotals.lean).
  GIVEN WITH THE SEED: the statements are not yours to turn. If you find one false, say at which input.
  Laid BY PROGRAM, IN A SANDBOX (cutbox-rows.mjs): the forced cells as the released guide's own fill.sh prints them over the translation 8352159aca679341… (all of the seat's roots in one cut). By AI agents, Wed Nov 11 2026. No macro, syntax, notation, axiom, sorry.
-/
import Derived.Test.YtphmakopjfbmnaaDoorChecked
import GoSem.Claim
import GoSem.ClaimJoined
import GoSem.ClaimMapViews
import Derived.JoinedTies
import Derived.KernelRfl
namespace Go.Proofs.YtphmakopjfbmnaaDoor
/- THE CELL 'sum', in the pinned program and in every row, IS THE sha256 OF THE DUMP (.gsa) THAT YtphmakopjfbmnaaDoorProg.lean LOADS. Nothing in Lean hashes anything: it is a label: what it is worth is what the hold of that sum in a sandbox is worth. -/
noncomputable def Tryd.pinned : Pinned := { name := "ytphmakopjfbmnaadoor", sum := "8352159aca67934196acab1e385b42ce2607c05dad60e91c18699729c822ad10", checked := Tryd.checked }
namespace Rows
def none {H : Type} : Left H := { results := [], args := [] }

/- WHAT THE LISTED PACKAGE-LEVEL VARIABLES READ AS WHEN THE CALL BEGINS. Each datum BY PROGRAM (the guide's laid-datum.mjs) off the statement by which the dump's own 'gosem.cut.vars' lays the variable. In a bare row this is a premise. The card (YtphmakopjfbmnaaDoorCards.lean) ties it to the program's text. -/
def laid_joinery_ins_shapes {H : Type} : DataW H := .agg [.agg [.lit (.string [99, 111, 110, 115, 116]), .lit (.string [100, 78])], .agg [.lit (.string [109, 111, 118]), .lit (.string [100, 97])], .agg [.lit (.string [115, 119, 97, 112]), .lit (.string [100, 97])], .agg [.lit (.string [97, 100, 100]), .lit (.string [68, 65, 66])], .agg [.lit (.string [115, 117, 98]), .lit (.string [68, 65, 66])], .agg [.lit (.string [109, 117, 108]), .lit (.string [68, 65, 66])], .agg [.lit (.string [100, 105, 118]), .lit (.string [68, 65, 66])], .agg [.lit (.string [97, 110, 100]), .lit (.string [68, 65, 66])], .agg [.lit (.string [111, 114]), .lit (.string [68, 65, 66])], .agg [.lit (.string [120, 111, 114]), .lit (.string [68, 65, 66])], .agg [.lit (.string [108, 101, 115, 115]), .lit (.string [68, 65, 66])], .agg [.lit (.string [115, 97, 109, 101]), .lit (.string [68, 65, 66])], .agg [.lit (.string [108, 111, 97, 100]), .lit (.string [68, 65])], .agg [.lit (.string [115, 116, 111, 114, 101]), .lit (.string [65, 66])], .agg [.lit (.string [99, 97, 108, 108]), .lit (.string [68, 65, 78])], .agg [.lit (.string [106, 117, 109, 112]), .lit (.string [84])], .agg [.lit (.string [122, 101, 114, 111]), .lit (.string [65, 84])], .agg [.lit (.string [114, 101, 116]), .lit (.string [65])]]

/-- 'joinerylaw20.ShrinkKeeps': WHATEVER THE INPUT: true; the input reads as it did. -/
def shrinkKeepsSpec : ChangeSpec := { name := "shrinkKeeps", fn := fun _ => fun
  | [d1, d2, d3] => { results := [.lit (.bool true)], args := [d1, d2, d3] }
  | _ => none }
def shrinkKeepsRow : OpenClaim := { program := "ytphmakopjfbmnaadoor", sum := "8352159aca67934196acab1e385b42ce2607c05dad60e91c18699729c822ad10", func := "joinery/joinerylaw20.ShrinkKeeps", spec := "shrinkKeeps", unfollowed := true, recurses := true, named := ["joinery/ins.shapes"], apart := false, laid := [("joinery/ins.shapes", laid_joinery_ins_shapes)] }
def ShrinkKeepsSaid : Prop := shrinkKeepsRow.holds Tryd.pinned (OpenSpec.ofChange shrinkKeepsSpec)

/-- ITS FALSE NEIGHBOUR: 'it returns false'. Refute it at one input. -/
def shrinkKeepsWrong : ChangeSpec := { name := "shrinkKeeps", fn := fun _ => fun
  | [d1, d2, d3] => { results := [.lit (.bool false)], args := [d1, d2, d3] }
  | _ => none }
def ShrinkKeepsWrongFalsely : Prop := shrinkKeepsRow.holds Tryd.pinned (OpenSpec.ofChange shrinkKeepsWrong)

/-- 'joinerylaw20.ShrinkLeast': WHATEVER THE INPUT: true; the input reads as it did. -/
def shrinkLeastSpec : ChangeSpec := { name := "shrinkLeast", fn := fun _ => fun
  | [d1, d2, d3, d4, d5] => { results := [.lit (.bool true)], args := [d1, d2, d3, d4, d5] }
  | _ => none }
def shrinkLeastRow : OpenClaim := { program := "ytphmakopjfbmnaadoor", sum := "8352159aca67934196acab1e385b42ce2607c05dad60e91c18699729c822ad10", func := "joinery/joinerylaw20.ShrinkLeast", spec := "shrinkLeast", unfollowed := true, recurses := true, named := ["joinery/ins.shapes"], apart := false, laid := [("joinery/ins.shapes", laid_joinery_ins_shapes)] }
def ShrinkLeastSaid : Prop := shrinkLeastRow.holds Tryd.pinned (OpenSpec.ofChange shrinkLeastSpec)

/-- ITS FALSE NEIGHBOUR: 'it returns false'. Refute it at one input. -/
def shrinkLeastWrong : ChangeSpec := { name := "shrinkLeast", fn := fun _ => fun
  | [d1, d2, d3, d4, d5] => { results := [.lit (.bool false)], args := [d1, d2, d3, d4, d5] }
  | _ => none }
def ShrinkLeastWrongFalsely : Prop := shrinkLeastRow.holds Tryd.pinned (OpenSpec.ofChange shrinkLeastWrong)

/-- 'joinerylaw20.ShrinkSwaps': WHATEVER THE INPUT: true; the input reads as it did. -/
def shrinkSwapsSpec : ChangeSpec := { name := "shrinkSwaps", fn := fun _ => fun
  | [d1, d2, d3] => { results := [.lit (.bool true)], args := [d1, d2, d3] }
  | _ => none }
def shrinkSwapsRow : OpenClaim := { program := "ytphmakopjfbmnaadoor", sum := "8352159aca67934196acab1e385b42ce2607c05dad60e91c18699729c822ad10", func := "joinery/joinerylaw20.ShrinkSwaps", spec := "shrinkSwaps", unfollowed := true, recurses := true, named := ["joinery/ins.shapes"], apart := false, laid := [("joinery/ins.shapes", laid_joinery_ins_shapes)] }
def ShrinkSwapsSaid : Prop := shrinkSwapsRow.holds Tryd.pinned (OpenSpec.ofChange shrinkSwapsSpec)

/-- ITS FALSE NEIGHBOUR: 'it returns false'. Refute it at one input. -/
def shrinkSwapsWrong : ChangeSpec := { name := "shrinkSwaps", fn := fun _ => fun
  | [d1, d2, d3] => { results := [.lit (.bool false)], args := [d1, d2, d3] }
  | _ => none }
def ShrinkSwapsWrongFalsely : Prop := shrinkSwapsRow.holds Tryd.pinned (OpenSpec.ofChange shrinkSwapsWrong)

/-- 'joinerylaw20.ShrinkSame': WHATEVER THE INPUT: true; the input reads as it did. -/
def shrinkSameSpec : ChangeSpec := { name := "shrinkSame", fn := fun _ => fun
  | [d1, d2] => { results := [.lit (.bool true)], args := [d1, d2] }
  | _ => none }
def shrinkSameRow : OpenClaim := { program := "ytphmakopjfbmnaadoor", sum := "8352159aca67934196acab1e385b42ce2607c05dad60e91c18699729c822ad10", func := "joinery/joinerylaw20.ShrinkSame", spec := "shrinkSame", unfollowed := true, recurses := true, named := ["joinery/ins.shapes"], apart := false, laid := [("joinery/ins.shapes", laid_joinery_ins_shapes)] }
def ShrinkSameSaid : Prop := shrinkSameRow.holds Tryd.pinned (OpenSpec.ofChange shrinkSameSpec)

/-- ITS FALSE NEIGHBOUR: 'it returns false'. Refute it at one input. -/
def shrinkSameWrong : ChangeSpec := { name := "shrinkSame", fn := fun _ => fun
  | [d1, d2] => { results := [.lit (.bool false)], args := [d1, d2] }
  | _ => none }
def ShrinkSameWrongFalsely : Prop := shrinkSameRow.holds Tryd.pinned (OpenSpec.ofChange shrinkSameWrong)

/- THE SECOND FORM. 'bulk': how many values and letters a reading holds, each counted each time it is reached (what is shared counts as often as it is met; a slice's spare places count too). A statement '..UptoSaid' is the law's where the arguments, and the package variables that the reading takes, are together of bulk at most 1048576: NARROWER than '..Said'. Prove '..Said' where nothing that the law and all that it calls make is longer than what came in: it says more and counts as full. Else prove '..UptoSaid'. A law counts once. -/
mutual
def uptoBulk {H : Type} : DataW H → Nat
  | .lit (.string bytes) => bytes.length + 1
  | .lit _ => 1
  | .nil => 1
  | .ptr d => uptoBulk d + 1
  | .slice elems spare => uptoBulkAll elems + uptoBulkAll spare + 1
  | .agg parts => uptoBulkAll parts + 1
  | .iface _ d => uptoBulk d + 1
  | .map entries => uptoBulkEntries entries + 1
  | .held _ => 1
def uptoBulkAll {H : Type} : List (DataW H) → Nat
  | [] => 0
  | d :: r => uptoBulk d + uptoBulkAll r
def uptoBulkEntries {H : Type} : List (Lit × DataW H) → Nat
  | [] => 0
  | x :: r => uptoBulkEntry x + uptoBulkEntries r
def uptoBulkEntry {H : Type} : Lit × DataW H → Nat
  | (.string bytes, d) => bytes.length + uptoBulk d + 1
  | (_, d) => uptoBulk d + 1
 end
def uptoSmall : (H : Type) → List (DataW H) → Bool := fun _ ds => decide (uptoBulkAll ds ≤ 1048576)
def OpenSpec.upto (s : _root_.Go.ChangeSpec) : _root_.Go.OpenSpec := { _root_.Go.OpenSpec.ofChange s with cond := some uptoSmall }

/-- 'joinerylaw20.ShrinkKeeps', WHERE WHAT IT READS IS OF BULK AT MOST 1048576: true; the input reads as it did. -/
def shrinkKeepsUptoRow : OpenClaim := { program := "ytphmakopjfbmnaadoor", sum := "8352159aca67934196acab1e385b42ce2607c05dad60e91c18699729c822ad10", func := "joinery/joinerylaw20.ShrinkKeeps", spec := "shrinkKeeps", unfollowed := true, recurses := true, named := ["joinery/ins.shapes"], apart := false, laid := [("joinery/ins.shapes", laid_joinery_ins_shapes)], narrowed := true }
def ShrinkKeepsUptoSaid : Prop := shrinkKeepsUptoRow.holds Tryd.pinned (OpenSpec.upto shrinkKeepsSpec)

/-- 'joinerylaw20.ShrinkLeast', WHERE WHAT IT READS IS OF BULK AT MOST 1048576: true; the input reads as it did. -/
def shrinkLeastUptoRow : OpenClaim := { program := "ytphmakopjfbmnaadoor", sum := "8352159aca67934196acab1e385b42ce2607c05dad60e91c18699729c822ad10", func := "joinery/joinerylaw20.ShrinkLeast", spec := "shrinkLeast", unfollowed := true, recurses := true, named := ["joinery/ins.shapes"], apart := false, laid := [("joinery/ins.shapes", laid_joinery_ins_shapes)], narrowed := true }
def ShrinkLeastUptoSaid : Prop := shrinkLeastUptoRow.holds Tryd.pinned (OpenSpec.upto shrinkLeastSpec)

/-- 'joinerylaw20.ShrinkSwaps', WHERE WHAT IT READS IS OF BULK AT MOST 1048576: true; the input reads as it did. -/
def shrinkSwapsUptoRow : OpenClaim := { program := "ytphmakopjfbmnaadoor", sum := "8352159aca67934196acab1e385b42ce2607c05dad60e91c18699729c822ad10", func := "joinery/joinerylaw20.ShrinkSwaps", spec := "shrinkSwaps", unfollowed := true, recurses := true, named := ["joinery/ins.shapes"], apart := false, laid := [("joinery/ins.shapes", laid_joinery_ins_shapes)], narrowed := true }
def ShrinkSwapsUptoSaid : Prop := shrinkSwapsUptoRow.holds Tryd.pinned (OpenSpec.upto shrinkSwapsSpec)

/-- 'joinerylaw20.ShrinkSame', WHERE WHAT IT READS IS OF BULK AT MOST 1048576: true; the input reads as it did. -/
def shrinkSameUptoRow : OpenClaim := { program := "ytphmakopjfbmnaadoor", sum := "8352159aca67934196acab1e385b42ce2607c05dad60e91c18699729c822ad10", func := "joinery/joinerylaw20.ShrinkSame", spec := "shrinkSame", unfollowed := true, recurses := true, named := ["joinery/ins.shapes"], apart := false, laid := [("joinery/ins.shapes", laid_joinery_ins_shapes)], narrowed := true }
def ShrinkSameUptoSaid : Prop := shrinkSameUptoRow.holds Tryd.pinned (OpenSpec.upto shrinkSameSpec)

end Rows
end Go.Proofs.YtphmakopjfbmnaaDoor
