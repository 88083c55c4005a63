/-
  The abstract layer, part 3: operations made plain (their types worked out), and what the quiet ones come to.
-/
import Derived.Test.YtoiceinjademgaaDoorA2
import Derived.WalkLawsBesides
namespace Go.Proofs.YtoiceinjademgaaDoor
open Go.RowKit

inductive Opd where
  | tmp (t : Nat)
  | cst (a : AV)

/-- A basic type's kind. -/
inductive EqB where
  | i | b | s

/-- How two values of a type are held against one another. -/
inductive EqK where
  | bool
  | cells (ks : List EqB)
  | func           -- function values: against nil
  | other

inductive LenK where
  | str | slice | map

inductive LOp where
  | mv (x : Opd)
  | pick (c a b : Opd)
  | alloc (z : List AV)
  | box (x : Opd)
  | build (z : List AV) (parts : List (Nat × Nat × Opd))
  | bslice (sz : Nat) (z : List AV) (len : Nat) (parts : List (Nat × Opd))
  | load (agg : Bool) (sz : Nat) (a : Opd)
  | store (sz : Nat) (a x : Opd)
  | nilc (x : Opd)
  | bin (op : BinOp) (k : EqK) (x y : Opd)
  | not (x : Opd)
  | neg (x : Opd)
  | toInt (k : IntKind) (x : Opd)
  | toStr (x : Opd)
  | toBytes (x : Opd)
  | mkIface (t : TypeId) (x : Opd)
  | mkFn (f : Fn) (first cap : List Opd)
  | mkMap
  | mkSlice (sz bytes : Nat) (z : List AV) (len cap : Opd)
  | sliceS (x : Opd) (lo hi : Option Opd)
  | slice (sz : Nat) (x : Opd) (lo hi mx : Option Opd)
  | sliceA (len sz : Nat) (x : Opd) (lo hi : Option Opd)
  | faddr (off : Nat) (x : Opd)
  | field (agg : Bool) (sz off : Nat) (x : Opd)
  | iaddrS (sz : Nat) (x i : Opd)
  | iaddrA (len sz : Nat) (x i : Opd)
  | idxA (len : Nat) (agg : Bool) (sz : Nat) (x i : Opd)
  | idxS (x i : Opd)
  | lookup (z : AV) (x k : Opd) (ok : Bool)
  | mapSet (m k v : Opd)
  | range (x : Opd)
  | next (it : Opd)
  | extract (x : Opd) (i : Nat)
  | len (k : LenK) (x : Opd)
  | min (xs : List Opd)
  | max (xs : List Opd)
  | append (sz bytes : Nat) (s x : Opd)
  | appendS (s x : Opd)
  | copy (sz : Nat) (d s : Opd)
  | call (f : Opd) (args : List Opd)
  | bad

/-- A constant of one cell. -/
def absC : Value → AV
  | .int k n => .int k n
  | .bool b => .bool b
  | .string s => .str s
  | .func f a b => if a.isEmpty && b.isEmpty then .fn f [] [] else .imm (.func f a b)
  | v => .imm v

/-- A constant. -/
def absV : Value → AV
  | .agg cs => .agg (cs.toList.map absC)
  | v => absC v

theorem absC_rep (c : Cx) (v : Value) : RepV c (absC v) v := by
  cases v with
  | int k n => exact .int _ _
  | bool b => exact .bool _
  | string s => exact .str _
  | func f a b =>
    simp only [absC]
    split
    · rename_i h
      simp only [Bool.and_eq_true, Array.isEmpty_iff] at h
      obtain ⟨rfl, rfl⟩ := h
      exact .fn _ _ _ _ _ rfl rfl (by simp) (by simp)
    · exact .imm _
  | _ => exact .imm _

theorem absV_rep (c : Cx) (v : Value) : RepV c (absV v) v := by
  cases v with
  | agg cs =>
    refine .agg _ _ (by simp) fun i a ha => ?_
    simp only [List.getElem?_map] at ha
    cases hc : cs.toList[i]? with
    | none => rw [hc] at ha; simp at ha
    | some v =>
      rw [hc] at ha
      simp only [Option.map_some, Option.some.injEq] at ha
      subst ha
      have : cs.getD i undef = v := by
        rw [Array.getElem?_toList] at hc
        simp [hc]
      rw [this]
      exact absC_rep c v
  | _ => (unfold absV; exact absC_rep c _)

section low
variable (P : Program)

def szOf (t : TypeId) : Nat := ((P.info? t).map (·.size)).getD 0
def bytesOf' (t : TypeId) : Nat := ((P.info? t).map (·.bytes)).getD 0
def aggOf (t : TypeId) : Bool := match P.underlying t with | some (.struct _) | some (.array ..) => true | _ => false
def zeroOf (t : TypeId) : Option (List AV) := ((P.info? t).bind (·.zero)).map fun v => v.cells.toList.map absC
def zeroV (t : TypeId) : Option AV := ((P.info? t).bind (·.zero)).map absV

def isU8 (t : TypeId) : Bool := match P.underlying t with | some (.int .u8) => true | _ => false
def basicK (t : TypeId) : Option EqB := match P.underlying t with | some (.int _) => some .i | some .bool => some .b | some .string => some .s | _ => none

/-- Fields from place i on, one cell each. -/
def flatF : Nat → List Field → Option (List EqB)
  | _, [] => some []
  | i, f :: fs => if f.offset == i && f.name != "_" then (basicK P f.type).bind fun k => (flatF (i + 1) fs).map fun ks => k :: ks else none

/-- A struct of basic fields, one cell each, in order. -/
def flatS (t : TypeId) : Option (List EqB) :=
  match P.underlying t with
  | some (.struct fs) => if !P.stoodInHeld t && !P.eqGuardType P.depth t then flatF P 0 fs.toList else none
  | _ => none

def eqk (t : TypeId) : EqK :=
  match P.underlying t with
  | some .bool => .bool
  | some (.func ..) => .func
  | _ => match flatS P t with
    | some n => .cells n
    | none => .other

def lowX : Operand → Opd
  | .tmp t => .tmp t
  | .const v => .cst (absV v)
  | .global g => match GT g with
    | some row => .cst (.lptr row 0)
    | none => .cst (.imm (.pointer (some ⟨g, 0, none⟩)))
  | .func f => .cst (.fn (.func f) [] [])

def lowParts (fs : Array Field) : List (Nat × Operand) → Option (List (Nat × Nat × Opd))
  | [] => some []
  | (i, x) :: r => match fs[i]?, lowParts fs r with
    | some f, some ps => some ((f.offset, szOf P f.type, lowX x) :: ps)
    | _, _ => none

def lowOp (o : Oper) : LOp :=
  match o.op with
  | .move x | .assign x => .mv (lowX x)
  | .pick c a b => .pick (lowX c) (lowX a) (lowX b)
  | .alloc e => match zeroOf P e with | some z => if 0 < z.length then .alloc z else .bad | none => .bad
  | .box _ x => .box (lowX x)
  | .build t parts => match zeroOf P t, P.underlying t with
    | some z, some (.struct fs) =>
      match lowParts P fs parts.toList with
      | some ps => if fs.all (fun f => (P.info? f.type).isSome) then .build z ps else .bad
      | none => .bad
    | some z, some (.array _ e) => if (P.info? e).isSome then .build z (parts.toList.map fun (i, x) => (i * szOf P e, szOf P e, lowX x)) else .bad
    | _, _ => .bad
  | .buildSlice t len parts => match P.underlying t with
    | some (.slice e) => match zeroOf P e with
      | some z => if 0 < z.length && z.length == szOf P e && len * szOf P e ≤ 2 ^ 24 then .bslice (szOf P e) z len (parts.toList.map fun (i, x) => (i, lowX x)) else .bad
      | none => .bad
    | _ => .bad
  | .load t a => if (P.underlying t).isSome then .load (aggOf P t) (szOf P t) (lowX a) else .bad
  | .store t a x => if (P.info? t).isSome then .store (szOf P t) (lowX a) (lowX x) else .bad
  | .nilCheck x => .nilc (lowX x)
  | .binOp op t x y _ => .bin op (eqk P t) (lowX x) (lowX y)
  | .unOp .not _ x => .not (lowX x)
  | .unOp .neg _ x => .neg (lowX x)
  | .convert s d x => match P.underlying s, P.underlying d with
    | some (.int _), some (.int k) => .toInt k (lowX x)
    | some (.slice e), some .string => if isU8 P e then .toStr (lowX x) else .bad
    | some .string, some (.slice e) => if isU8 P e then .toBytes (lowX x) else .bad
    | _, _ => .bad
  | .makeInterface t x => match P.underlying t with
    | some (.interface _) | none => .bad
    | _ => .mkIface t (lowX x)
  | .makeFunc f first cap => .mkFn f (first.toList.map lowX) (cap.toList.map lowX)
  | .makeMap _ none => .mkMap
  | .makeSlice t l c => match P.underlying t with
    | some (.slice e) => match zeroOf P e with
      | some z => if 0 < z.length && z.length == szOf P e then .mkSlice (szOf P e) (bytesOf' P e) z (lowX l) (lowX c) else .bad
      | none => .bad
    | _ => .bad
  | .slice t x lo hi mx => match P.underlying t, mx with
    | some .string, none => .sliceS (lowX x) (lo.map lowX) (hi.map lowX)
    | some (.slice e), mx => if (P.info? e).isSome then .slice (szOf P e) (lowX x) (lo.map lowX) (hi.map lowX) (mx.map lowX) else .bad
    | some (.array n e), none => if (P.info? e).isSome then .sliceA n (szOf P e) (lowX x) (lo.map lowX) (hi.map lowX) else .bad
    | _, _ => .bad
  | .fieldAddr t x i => match P.underlying t with
    | some (.struct fs) => match fs[i]? with
      | some f => if 0 < szOf P f.type then .faddr f.offset (lowX x) else .bad
      | none => .bad
    | _ => .bad
  | .field t x i => match P.underlying t with
    | some (.struct fs) => match fs[i]? with
      | some f => if (P.underlying f.type).isSome then .field (aggOf P f.type) (szOf P f.type) f.offset (lowX x) else .bad
      | none => .bad
    | _ => .bad
  | .indexAddr t x i => match P.underlying t with
    | some (.slice e) => if (P.info? e).isSome then .iaddrS (szOf P e) (lowX x) (lowX i) else .bad
    | some (.array n e) => if (P.info? e).isSome then .iaddrA n (szOf P e) (lowX x) (lowX i) else .bad
    | _ => .bad
  | .index t x i => match P.underlying t with
    | some .string => .idxS (lowX x) (lowX i)
    | some (.array n e) => if (P.underlying e).isSome then .idxA n (aggOf P e) (szOf P e) (lowX x) (lowX i) else .bad
    | _ => .bad
  | .lookup t x k ok => match P.underlying t with
    | some (.map kt et) => match P.underlying kt, zeroV P et with
      | some (.int _), some z => .lookup z (lowX x) (lowX k) ok
      | _, _ => .bad
    | _ => .bad
  | .mapUpdate t m k v | .insert t m k v => match P.underlying t with
    | some (.map kt _) => match P.underlying kt with
      | some (.int _) => .mapSet (lowX m) (lowX k) (lowX v)
      | _ => .bad
    | _ => .bad
  | .range t x => match P.underlying t with
    | some .string => .range (lowX x)
    | _ => .bad
  | .next it true => .next (lowX it)
  | .extract x i => .extract (lowX x) i
  | .call c => match c.callee with
    | .value f => .call (lowX f) (c.args.toList.map lowX)
    | .builtin .len => match (c.argTypes[0]?).bind P.underlying, c.args.toList with
      | some .string, [x] => .len .str (lowX x)
      | some (.slice _), [x] => .len .slice (lowX x)
      | some (.map ..), [x] => .len .map (lowX x)
      | _, _ => .bad
    | .builtin .min => .min (c.args.toList.map lowX)
    | .builtin .max => .max (c.args.toList.map lowX)
    | .builtin .append => match (c.argTypes[0]?).bind P.underlying, (c.argTypes[1]?).bind P.underlying, c.args.toList with
      | some (.slice e), some (.slice _), [s, x] => if 0 < szOf P e && (zeroOf P e).map (·.length) == some (szOf P e) then .append (szOf P e) (bytesOf' P e) (lowX s) (lowX x) else .bad
      | some (.slice e), some .string, [s, x] => if szOf P e == 1 && bytesOf' P e == 1 && isU8 P e && (zeroOf P e).map (·.length) == some 1 then .appendS (lowX s) (lowX x) else .bad
      | _, _, _ => .bad
    | .builtin .copy => match (c.argTypes[0]?).bind P.underlying, (c.argTypes[1]?).bind P.underlying, c.args.toList with
      | some (.slice e), some (.slice _), [d, s] => if szOf P e == 1 then .copy (szOf P e) (lowX d) (lowX s) else .bad
      | _, _, _ => .bad
    | _ => .bad
  | _ => .bad
end low

/-- An operation, the slot that it writes, and when it is carried out. -/
structure LOper where
  dst : Option Nat
  op : LOp
  guard : Option (Nat × Bool)

def lowOper (P : Program) (ops : Array Oper) (o : Oper) : LOper :=
  match o.guard with
  | none => ⟨o.dst, lowOp P o, none⟩
  | some (j, b) => match (ops[j]?).bind (·.dst) with
    | some t => ⟨o.dst, lowOp P o, some (t, b)⟩
    | none => ⟨o.dst, .bad, none⟩

def lowOpers (P : Program) (ops : Array Oper) : List LOper := ops.toList.map (lowOper P ops)

/-- Slots. -/
abbrev Tm := Nat → AV

def ev (t : Tm) : Opd → AV
  | .tmp n => t n
  | .cst a => a

/-- The frame. -/
structure RepT (c : Cx) (N : Nat) (t : Tm) (a : Act) : Prop where
  size : a.tmps.size = N
  val : ∀ n, RepV c (t n) (a.tmps.getD n undef)
  defers : a.defers = []

theorem RepT.mono {c c' : Cx} {N : Nat} {t : Tm} {a : Act} (h : RepT c N t a) (hf : Fr c c') : RepT c' N t a := ⟨h.size, fun n => (h.val n).mono hf, h.defers⟩

theorem RepT.eval {c : Cx} {N : Nat} {t : Tm} {a : Act} (h : RepT c N t a) (hg : GlobOk c) (x : Operand) : RepV c (ev t (lowX x)) (a.eval x) := by
  cases x with
  | tmp n => exact h.val n
  | const v => exact absV_rep c v
  | global g =>
    show RepV c (ev t (match GT g with
      | some row => Opd.cst (.lptr row 0)
      | none => Opd.cst (.imm (.pointer (some ⟨g, 0, none⟩))))) (a.eval (.global g))
    cases hr : GT g with
    | some row => exact hg.ptr hr
    | none => exact .imm _
  | func f => exact .fn _ _ _ _ _ rfl rfl (by simp) (by simp)

def Tm.put (t : Tm) (d : Option Nat) (v : AV) : Tm := match d with
  | none => t
  | some d => fun n => if n = d then v else t n

theorem RepT.put {c : Cx} {N : Nat} {t : Tm} {a : Act} (h : RepT c N t a) {d : Option Nat} (hd : ∀ n, d = some n → n < N) {v : AV} {u : Value} (hv : RepV c v u) : RepT c N (t.put d v) (a.put d u) := by
  cases d with
  | none => exact h
  | some d =>
    have hlt := hd d rfl
    refine ⟨by simp [Act.put, h.size], fun n => ?_, h.defers⟩
    by_cases e : n = d
    · subst e
      have : n < a.tmps.size := h.size ▸ hlt
      simp [Tm.put, Act.put, this]
      exact hv
    · simp only [Tm.put, e, if_false, Act.put]
      have := h.val n
      simpa [Array.getElem?_setIfInBounds_ne (Ne.symm e)] using this

end Go.Proofs.YtoiceinjademgaaDoor
