/-
  The abstract layer, part 5: operations whose answer hangs on their operands alone, all together.
-/
import Derived.Test.YtoiceinjademgaaDoorA4
namespace Go.Proofs.YtoiceinjademgaaDoor
open Go.RowKit

/-- An index into n things. -/
def ixA (n : Nat) : AV → Option Nat
  | .int _ i => if 0 ≤ i ∧ i < (n : Int) then some i.toNat else none
  | _ => none

/-- A bound of a slice: at most n. -/
def bdA (n d : Nat) : Option AV → Option Nat
  | none => some d
  | some (.int _ i) => if 0 ≤ i ∧ i ≤ (n : Int) then some i.toNat else none
  | _ => none

/-- A part of a row. -/
def partA (agg : Bool) (sz off : Nat) (row : List AV) : Option AV :=
  if agg then (if off + sz ≤ row.length then some (.agg ((row.drop off).take sz)) else none) else row[off]?

/-- Parts laid into cells. -/
def fillA (e : Opd → AV) : List AV → List (Nat × Nat × Opd) → Option (List AV)
  | z, [] => some z
  | z, (off, sz, x) :: r => match e x with
    | .agg cs => if cs.length = sz ∧ off + sz ≤ z.length then fillA e (z.take off ++ cs ++ z.drop (off + sz)) r else none
    | a => if sz = 1 ∧ a.cell = true ∧ off + 1 ≤ z.length then fillA e (z.take off ++ [a] ++ z.drop (off + 1)) r else none

def foldI (f : Int → Int → Int) : List AV → Option AV
  | [] => none
  | .int k a :: r => r.foldl (fun (acc : Option AV) x => match acc, x with | some (.int k a), .int k' b => if k = k' then some (.int k (f a b)) else none | _, _ => none) (some (.int k a))
  | _ => none

def min2 (x y : Int) : Int := if y < x then y else x
def max2 (x y : Int) : Int := if x < y then y else x

def pureStep (op : LOp) (e : Opd → AV) : Option AV :=
  match op with
  | .mv x => some (e x)
  | .pick c a b => match e c with | .bool t => some (if t then e a else e b) | _ => none
  | .nilc x => match e x with | .ptr .. | .lptr .. | .fn (.func _) .. => some (e x) | _ => none
  | .bin op k x y => binA op k (e x) (e y)
  | .not x => match e x with | .bool b => some (.bool (!b)) | _ => none
  | .neg x => match e x with | .int k n => some (.int k (k.wrap (0 - n))) | _ => none
  | .toInt k x => match e x with | .int _ n => some (.int k (k.wrap n)) | _ => none
  | .mkIface t x => some (.iface t (e x))
  | .mkFn f a b => some (.fn f (a.map e) (b.map e))
  | .sliceS x lo hi => match e x with
    | .str s => (bdA s.size s.size (hi.map e)).bind fun h => (bdA h 0 (lo.map e)).map fun l => .str (s.extract l h)
    | _ => none
  | .slice sz x lo hi none => match e x with
    | .list xs => (bdA xs.length xs.length (hi.map e)).bind fun h => (bdA h 0 (lo.map e)).bind fun l => if xs = [] ∨ (xs.headD []).length = sz then some (.list ((xs.drop l).take (h - l))) else none
    | .sl sz' k n off len => if sz = sz' then (bdA len len (hi.map e)).bind fun h => (bdA h 0 (lo.map e)).map fun l => .sl sz k n (off + l) (h - l) else none
    | _ => none
  | .faddr off x => match e x with
    | .ptr k n i o => some (.ptr k n i (o + off))
    | .lptr row o => some (.lptr row (o + off))
    | _ => none
  | .field agg sz off x => match e x with | .agg cs => partA agg sz off cs | _ => none
  | .iaddrS sz x i => match e x with
    | .list xs => (ixA xs.length (e i)).bind fun j => if (xs.getD j []).length = sz then some (.lptr (xs.getD j []) 0) else none
    | .sl sz' k n off len => if sz = sz' then (ixA len (e i)).map fun j => .ptr k n (off + j) 0 else none
    | _ => none
  | .iaddrA len sz x i => match e x with
    | .ptr k n j o => (ixA len (e i)).map fun i => .ptr k n j (o + i * sz)
    | .lptr row o => (ixA len (e i)).map fun i => .lptr row (o + i * sz)
    | _ => none
  | .idxA len agg sz x i => match e x with
    | .agg cs => (ixA len (e i)).bind fun i => partA agg sz (i * sz) cs
    | _ => none
  | .idxS x i => match e x with
    | .str s => (ixA s.size (e i)).map fun j => .int .u8 ((s.get! j).toNat : Int)
    | _ => none
  | .extract x i => match e x with | .tup vs => vs[i]? | _ => none
  | .len .slice x => match e x with
    | .list xs => some (.int .i64 (xs.length : Int))
    | .sl _ _ _ _ len => some (.int .i64 (len : Int))
    | .imm (.slice none 0 0) => some (.int .i64 0)
    | _ => none
  | .len .str x => match e x with
    | .str s => some (.int .i64 (s.size : Int))
    | _ => none
  | .min xs => foldI min2 (xs.map e)
  | .max xs => foldI max2 (xs.map e)
  | .build z ps => (fillA e z ps).map .agg
  | _ => none

def Gives (P : Program) (ρ : Operand → Value) (o : Oper) (u : Value) : Prop := ∀ w, (execOp ρ o).run P w = .ok (.value u) w

end Go.Proofs.YtoiceinjademgaaDoor
