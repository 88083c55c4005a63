/-
  No cell of these rows narrows 'for every input' (looked for: loops, veiled, ifaces, maps, wideKeys, modest, calm, conditions, laid).
  DERIVED. THE GIVEN ROWS OF THIS SEAT. 4 by the template 'for every input the law returns true; each argument reads behind the call as it read before'; 0 by the template 'total and deterministic' (their statements: YteoahfpnkbdkkaaTotals.lean).
  GIVEN WITH THE SEED: the statements are not yours to turn. If you find one false, say at which input.
  Laid BY PROGRAM, IN A SANDBOX (cutbox-rows.mjs): the forced cells as the released guide's own fill.sh prints them over the translation bb10443f98098db8… (all of the seat's roots in one cut). By AI agents, Wed Nov 11 2026. No macro, syntax, notation, axiom, sorry.
-/
import Derived.Test.YteoahfpnkbdkkaaChecked
import GoSem.Claim
import GoSem.ClaimJoined
import GoSem.ClaimMapViews
import Derived.JoinedTies
import Derived.KernelRfl
namespace Go.Proofs.Yteoahfpnkbdkkaa
/- THE CELL 'sum', in the pinned program and in every row, IS THE sha256 OF THE DUMP (.gsa) THAT YteoahfpnkbdkkaaProg.lean LOADS. Nothing in Lean hashes anything: it is a label: what it is worth is what the hold of that sum in a sandbox is worth. -/
noncomputable def Try.pinned : Pinned := { name := "yteoahfpnkbdkkaa", sum := "bb10443f98098db8530fff1efe7cf94d989ff02bcd545d6ac79b750ebecb07c5", checked := Try.checked }
namespace Rows
def none {H : Type} : Left H := { results := [], args := [] }

/-- 'joinerylaw17.CandRight': WHATEVER THE INPUT: true; the input reads as it did. -/
def candRightSpec : ChangeSpec := { name := "candRight", fn := fun _ => fun
  | [d1, d2, d3, d4] => { results := [.lit (.bool true)], args := [d1, d2, d3, d4] }
  | _ => none }
def candRightRow : OpenClaim := { program := "yteoahfpnkbdkkaa", sum := "bb10443f98098db8530fff1efe7cf94d989ff02bcd545d6ac79b750ebecb07c5", func := "joinery/joinerylaw17.CandRight", spec := "candRight", unfollowed := true, recurses := true, apart := false }
def CandRightSaid : Prop := candRightRow.holds Try.pinned (OpenSpec.ofChange candRightSpec)

/-- ITS FALSE NEIGHBOUR: 'it returns false'. Refute it at one input. -/
def candRightWrong : ChangeSpec := { name := "candRight", fn := fun _ => fun
  | [d1, d2, d3, d4] => { results := [.lit (.bool false)], args := [d1, d2, d3, d4] }
  | _ => none }
def CandRightWrongFalsely : Prop := candRightRow.holds Try.pinned (OpenSpec.ofChange candRightWrong)

/-- 'joinerylaw17.CandUnlike': WHATEVER THE INPUT: true; the input reads as it did. -/
def candUnlikeSpec : ChangeSpec := { name := "candUnlike", fn := fun _ => fun
  | [d1, d2] => { results := [.lit (.bool true)], args := [d1, d2] }
  | _ => none }
def candUnlikeRow : OpenClaim := { program := "yteoahfpnkbdkkaa", sum := "bb10443f98098db8530fff1efe7cf94d989ff02bcd545d6ac79b750ebecb07c5", func := "joinery/joinerylaw17.CandUnlike", spec := "candUnlike", unfollowed := true, recurses := true, apart := false }
def CandUnlikeSaid : Prop := candUnlikeRow.holds Try.pinned (OpenSpec.ofChange candUnlikeSpec)

/-- ITS FALSE NEIGHBOUR: 'it returns false'. Refute it at one input. -/
def candUnlikeWrong : ChangeSpec := { name := "candUnlike", fn := fun _ => fun
  | [d1, d2] => { results := [.lit (.bool false)], args := [d1, d2] }
  | _ => none }
def CandUnlikeWrongFalsely : Prop := candUnlikeRow.holds Try.pinned (OpenSpec.ofChange candUnlikeWrong)

/-- 'joinerylaw17.CandLong': WHATEVER THE INPUT: true; the input reads as it did. -/
def candLongSpec : ChangeSpec := { name := "candLong", fn := fun _ => fun
  | [d1, d2, d3, d4] => { results := [.lit (.bool true)], args := [d1, d2, d3, d4] }
  | _ => none }
def candLongRow : OpenClaim := { program := "yteoahfpnkbdkkaa", sum := "bb10443f98098db8530fff1efe7cf94d989ff02bcd545d6ac79b750ebecb07c5", func := "joinery/joinerylaw17.CandLong", spec := "candLong", unfollowed := true, recurses := true, apart := false }
def CandLongSaid : Prop := candLongRow.holds Try.pinned (OpenSpec.ofChange candLongSpec)

/-- ITS FALSE NEIGHBOUR: 'it returns false'. Refute it at one input. -/
def candLongWrong : ChangeSpec := { name := "candLong", fn := fun _ => fun
  | [d1, d2, d3, d4] => { results := [.lit (.bool false)], args := [d1, d2, d3, d4] }
  | _ => none }
def CandLongWrongFalsely : Prop := candLongRow.holds Try.pinned (OpenSpec.ofChange candLongWrong)

/-- 'joinerylaw17.CandPools': WHATEVER THE INPUT: true; the input reads as it did. -/
def candPoolsSpec : ChangeSpec := { name := "candPools", fn := fun _ => fun
  | [d1, d2, d3, d4] => { results := [.lit (.bool true)], args := [d1, d2, d3, d4] }
  | _ => none }
def candPoolsRow : OpenClaim := { program := "yteoahfpnkbdkkaa", sum := "bb10443f98098db8530fff1efe7cf94d989ff02bcd545d6ac79b750ebecb07c5", func := "joinery/joinerylaw17.CandPools", spec := "candPools", unfollowed := true, recurses := true, apart := false }
def CandPoolsSaid : Prop := candPoolsRow.holds Try.pinned (OpenSpec.ofChange candPoolsSpec)

/-- ITS FALSE NEIGHBOUR: 'it returns false'. Refute it at one input. -/
def candPoolsWrong : ChangeSpec := { name := "candPools", fn := fun _ => fun
  | [d1, d2, d3, d4] => { results := [.lit (.bool false)], args := [d1, d2, d3, d4] }
  | _ => none }
def CandPoolsWrongFalsely : Prop := candPoolsRow.holds Try.pinned (OpenSpec.ofChange candPoolsWrong)

/- THE SECOND FORM. 'bulk': how many values and letters a reading holds, each counted each time it is reached (what is shared counts as often as it is met; a slice's spare places count too). A statement '..UptoSaid' is the law's where the arguments, and the package variables that the reading takes, are together of bulk at most 1048576: NARROWER than '..Said'. Prove '..Said' where nothing that the law and all that it calls make is longer than what came in: it says more and counts as full. Else prove '..UptoSaid'. A law counts once. -/
mutual
def uptoBulk {H : Type} : DataW H → Nat
  | .lit (.string bytes) => bytes.length + 1
  | .lit _ => 1
  | .nil => 1
  | .ptr d => uptoBulk d + 1
  | .slice elems spare => uptoBulkAll elems + uptoBulkAll spare + 1
  | .agg parts => uptoBulkAll parts + 1
  | .iface _ d => uptoBulk d + 1
  | .map entries => uptoBulkEntries entries + 1
  | .held _ => 1
def uptoBulkAll {H : Type} : List (DataW H) → Nat
  | [] => 0
  | d :: r => uptoBulk d + uptoBulkAll r
def uptoBulkEntries {H : Type} : List (Lit × DataW H) → Nat
  | [] => 0
  | x :: r => uptoBulkEntry x + uptoBulkEntries r
def uptoBulkEntry {H : Type} : Lit × DataW H → Nat
  | (.string bytes, d) => bytes.length + uptoBulk d + 1
  | (_, d) => uptoBulk d + 1
 end
def uptoSmall : (H : Type) → List (DataW H) → Bool := fun _ ds => decide (uptoBulkAll ds ≤ 1048576)
def OpenSpec.upto (s : _root_.Go.ChangeSpec) : _root_.Go.OpenSpec := { _root_.Go.OpenSpec.ofChange s with cond := some uptoSmall }

/-- 'joinerylaw17.CandRight', WHERE WHAT IT READS IS OF BULK AT MOST 1048576: true; the input reads as it did. -/
def candRightUptoRow : OpenClaim := { program := "yteoahfpnkbdkkaa", sum := "bb10443f98098db8530fff1efe7cf94d989ff02bcd545d6ac79b750ebecb07c5", func := "joinery/joinerylaw17.CandRight", spec := "candRight", unfollowed := true, recurses := true, apart := false, narrowed := true }
def CandRightUptoSaid : Prop := candRightUptoRow.holds Try.pinned (OpenSpec.upto candRightSpec)

/-- 'joinerylaw17.CandUnlike', WHERE WHAT IT READS IS OF BULK AT MOST 1048576: true; the input reads as it did. -/
def candUnlikeUptoRow : OpenClaim := { program := "yteoahfpnkbdkkaa", sum := "bb10443f98098db8530fff1efe7cf94d989ff02bcd545d6ac79b750ebecb07c5", func := "joinery/joinerylaw17.CandUnlike", spec := "candUnlike", unfollowed := true, recurses := true, apart := false, narrowed := true }
def CandUnlikeUptoSaid : Prop := candUnlikeUptoRow.holds Try.pinned (OpenSpec.upto candUnlikeSpec)

/-- 'joinerylaw17.CandLong', WHERE WHAT IT READS IS OF BULK AT MOST 1048576: true; the input reads as it did. -/
def candLongUptoRow : OpenClaim := { program := "yteoahfpnkbdkkaa", sum := "bb10443f98098db8530fff1efe7cf94d989ff02bcd545d6ac79b750ebecb07c5", func := "joinery/joinerylaw17.CandLong", spec := "candLong", unfollowed := true, recurses := true, apart := false, narrowed := true }
def CandLongUptoSaid : Prop := candLongUptoRow.holds Try.pinned (OpenSpec.upto candLongSpec)

/-- 'joinerylaw17.CandPools', WHERE WHAT IT READS IS OF BULK AT MOST 1048576: true; the input reads as it did. -/
def candPoolsUptoRow : OpenClaim := { program := "yteoahfpnkbdkkaa", sum := "bb10443f98098db8530fff1efe7cf94d989ff02bcd545d6ac79b750ebecb07c5", func := "joinery/joinerylaw17.CandPools", spec := "candPools", unfollowed := true, recurses := true, apart := false, narrowed := true }
def CandPoolsUptoSaid : Prop := candPoolsUptoRow.holds Try.pinned (OpenSpec.upto candPoolsSpec)

end Rows
end Go.Proofs.Yteoahfpnkbdkkaa
