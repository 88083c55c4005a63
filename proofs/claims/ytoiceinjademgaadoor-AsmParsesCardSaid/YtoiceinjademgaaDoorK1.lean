/-
  ins: places, shapes, fields.
-/
import Derived.Test.YtoiceinjademgaaDoorL
import Derived.Test.YtoiceinjademgaaDoorCB
namespace Go.Proofs.YtoiceinjademgaaDoor
open Go.RowKit
set_option linter.unusedVariables false
set_option linter.unusedSimpArgs false

structure Ins where
  op : Int
  d : Int
  a : Int
  b : Int
  n : Int
  to : Int
deriving DecidableEq

def encIns (x : Ins) : List AV := [.int .i64 x.op, .int .i64 x.d, .int .i64 x.a, .int .i64 x.b, .int .i64 x.n, .int .i64 x.to]
def insA (x : Ins) : AV := .agg (encIns x)
theorem insA_eq (x : Ins) : insA x = .agg [.int .i64 x.op, .int .i64 x.d, .int .i64 x.a, .int .i64 x.b, .int .i64 x.n, .int .i64 x.to] := rfl

/-- Is it a place, below k? -/
def inR (k : Int) (l : Int) : Bool := decide (0 ≤ l ∧ l < k)

theorem loc_Right_ok (l : Int) : Pure Tryd.prog 30 [.int .i64 l] (.bool (inR 24 l)) := by
  intro H
  refine ACalls.go loc_Right.low (by simp) fun hcl => ?_
  repeat' (first | simp only [seval, ev1, ev2, ev3, ev4, beq_self_eq_true, sb, insA, encIns, *] | simp (disch := omega) only [if_pos, if_neg] | refine R.seq ?_ | refine LCB.text ?_ | refine LCB.quiet rfl ?_ | refine R.calls rfl ?_ | refine R.block ?_ | refine LCB.skip ?_ | refine LCB.exit ?_ | refine LCB.ret ?_ | (refine RetOk.val hcl ?_; simp only [seval, ev1, ev2, ev3, wk, List.forall_mem_cons, List.forall_mem_map, List.forall_mem_append, List.not_mem_nil, sb, insA, encIns, *]) | (refine Weak.at hcl ?_; simp only [seval, ev1, ev2, ev3, wk, List.forall_mem_cons, List.forall_mem_map, List.forall_mem_append, List.not_mem_nil, sb, insA, encIns, *]) | (refine LCB.cond (by (simp only [seval, ev1, ev2, ev3, ev4, beq_self_eq_true, sb, insA, encIns, *]) <;> rfl) (fun hc => ?_) (fun hc => ?_) <;> try simp only [seval, decide_eq_true_eq, decide_eq_false_iff_not, Bool.not_eq_true', Bool.not_eq_false', Bool.not_true, Bool.not_false] at hc) | (refine wpG_split (by (simp only [seval, ev1, ev2, ev3, ev4, beq_self_eq_true, sb, insA, encIns, *]) <;> rfl) (fun hc => ?_) (fun hc => ?_) <;> try simp only [seval, decide_eq_true_eq, decide_eq_false_iff_not, Bool.not_eq_true', Bool.not_eq_false', Bool.not_true, Bool.not_false] at hc) | (refine wqG_split (by (simp only [seval, ev1, ev2, ev3, ev4, beq_self_eq_true, sb, insA, encIns, *]) <;> rfl) (fun hc => ?_) (fun hc => ?_) <;> try simp only [seval, decide_eq_true_eq, decide_eq_false_iff_not, Bool.not_eq_true', Bool.not_eq_false', Bool.not_true, Bool.not_false] at hc) | refine ACalls.inst ?_ | refine CallP.inst rfl ?_)
  all_goals simp [inR, *]
theorem loc_Reg_ok (l : Int) : Pure Tryd.prog 32 [.int .i64 l] (.bool (inR 8 l)) := by
  intro H
  refine ACalls.go loc_Reg.low (by simp) fun hcl => ?_
  repeat' (first | simp only [seval, ev1, ev2, ev3, ev4, beq_self_eq_true, sb, insA, encIns, *] | simp (disch := omega) only [if_pos, if_neg] | refine R.seq ?_ | refine LCB.text ?_ | refine LCB.quiet rfl ?_ | refine R.calls rfl ?_ | refine R.block ?_ | refine LCB.skip ?_ | refine LCB.exit ?_ | refine LCB.ret ?_ | (refine RetOk.val hcl ?_; simp only [seval, ev1, ev2, ev3, wk, List.forall_mem_cons, List.forall_mem_map, List.forall_mem_append, List.not_mem_nil, sb, insA, encIns, *]) | (refine Weak.at hcl ?_; simp only [seval, ev1, ev2, ev3, wk, List.forall_mem_cons, List.forall_mem_map, List.forall_mem_append, List.not_mem_nil, sb, insA, encIns, *]) | (refine LCB.cond (by (simp only [seval, ev1, ev2, ev3, ev4, beq_self_eq_true, sb, insA, encIns, *]) <;> rfl) (fun hc => ?_) (fun hc => ?_) <;> try simp only [seval, decide_eq_true_eq, decide_eq_false_iff_not, Bool.not_eq_true', Bool.not_eq_false', Bool.not_true, Bool.not_false] at hc) | (refine wpG_split (by (simp only [seval, ev1, ev2, ev3, ev4, beq_self_eq_true, sb, insA, encIns, *]) <;> rfl) (fun hc => ?_) (fun hc => ?_) <;> try simp only [seval, decide_eq_true_eq, decide_eq_false_iff_not, Bool.not_eq_true', Bool.not_eq_false', Bool.not_true, Bool.not_false] at hc) | (refine wqG_split (by (simp only [seval, ev1, ev2, ev3, ev4, beq_self_eq_true, sb, insA, encIns, *]) <;> rfl) (fun hc => ?_) (fun hc => ?_) <;> try simp only [seval, decide_eq_true_eq, decide_eq_false_iff_not, Bool.not_eq_true', Bool.not_eq_false', Bool.not_true, Bool.not_false] at hc) | refine ACalls.inst ?_ | refine CallP.inst rfl ?_)
  all_goals simp [inR, *]
theorem joineryref03_place_ok (l : Int) : Pure Tryd.prog 34 [.int .i64 l] (.bool (inR 24 l)) := by
  intro H
  refine ACalls.go joineryref03_place.low (by simp) fun hcl => ?_
  repeat' (first | simp only [seval, ev1, ev2, ev3, ev4, beq_self_eq_true, sb, insA, encIns, *] | simp (disch := omega) only [if_pos, if_neg] | refine R.seq ?_ | refine LCB.text ?_ | refine LCB.quiet rfl ?_ | refine R.calls rfl ?_ | refine R.block ?_ | refine LCB.skip ?_ | refine LCB.exit ?_ | refine LCB.ret ?_ | (refine RetOk.val hcl ?_; simp only [seval, ev1, ev2, ev3, wk, List.forall_mem_cons, List.forall_mem_map, List.forall_mem_append, List.not_mem_nil, sb, insA, encIns, *]) | (refine Weak.at hcl ?_; simp only [seval, ev1, ev2, ev3, wk, List.forall_mem_cons, List.forall_mem_map, List.forall_mem_append, List.not_mem_nil, sb, insA, encIns, *]) | (refine LCB.cond (by (simp only [seval, ev1, ev2, ev3, ev4, beq_self_eq_true, sb, insA, encIns, *]) <;> rfl) (fun hc => ?_) (fun hc => ?_) <;> try simp only [seval, decide_eq_true_eq, decide_eq_false_iff_not, Bool.not_eq_true', Bool.not_eq_false', Bool.not_true, Bool.not_false] at hc) | (refine wpG_split (by (simp only [seval, ev1, ev2, ev3, ev4, beq_self_eq_true, sb, insA, encIns, *]) <;> rfl) (fun hc => ?_) (fun hc => ?_) <;> try simp only [seval, decide_eq_true_eq, decide_eq_false_iff_not, Bool.not_eq_true', Bool.not_eq_false', Bool.not_true, Bool.not_false] at hc) | (refine wqG_split (by (simp only [seval, ev1, ev2, ev3, ev4, beq_self_eq_true, sb, insA, encIns, *]) <;> rfl) (fun hc => ?_) (fun hc => ?_) <;> try simp only [seval, decide_eq_true_eq, decide_eq_false_iff_not, Bool.not_eq_true', Bool.not_eq_false', Bool.not_true, Bool.not_false] at hc) | refine ACalls.inst ?_ | refine CallP.inst rfl ?_)
  all_goals simp [inR, *]
theorem joineryref03_reg_ok (l : Int) : Pure Tryd.prog 35 [.int .i64 l] (.bool (inR 8 l)) := by
  intro H
  refine ACalls.go joineryref03_reg.low (by simp) fun hcl => ?_
  repeat' (first | simp only [seval, ev1, ev2, ev3, ev4, beq_self_eq_true, sb, insA, encIns, *] | simp (disch := omega) only [if_pos, if_neg] | refine R.seq ?_ | refine LCB.text ?_ | refine LCB.quiet rfl ?_ | refine R.calls rfl ?_ | refine R.block ?_ | refine LCB.skip ?_ | refine LCB.exit ?_ | refine LCB.ret ?_ | (refine RetOk.val hcl ?_; simp only [seval, ev1, ev2, ev3, wk, List.forall_mem_cons, List.forall_mem_map, List.forall_mem_append, List.not_mem_nil, sb, insA, encIns, *]) | (refine Weak.at hcl ?_; simp only [seval, ev1, ev2, ev3, wk, List.forall_mem_cons, List.forall_mem_map, List.forall_mem_append, List.not_mem_nil, sb, insA, encIns, *]) | (refine LCB.cond (by (simp only [seval, ev1, ev2, ev3, ev4, beq_self_eq_true, sb, insA, encIns, *]) <;> rfl) (fun hc => ?_) (fun hc => ?_) <;> try simp only [seval, decide_eq_true_eq, decide_eq_false_iff_not, Bool.not_eq_true', Bool.not_eq_false', Bool.not_true, Bool.not_false] at hc) | (refine wpG_split (by (simp only [seval, ev1, ev2, ev3, ev4, beq_self_eq_true, sb, insA, encIns, *]) <;> rfl) (fun hc => ?_) (fun hc => ?_) <;> try simp only [seval, decide_eq_true_eq, decide_eq_false_iff_not, Bool.not_eq_true', Bool.not_eq_false', Bool.not_true, Bool.not_false] at hc) | (refine wqG_split (by (simp only [seval, ev1, ev2, ev3, ev4, beq_self_eq_true, sb, insA, encIns, *]) <;> rfl) (fun hc => ?_) (fun hc => ?_) <;> try simp only [seval, decide_eq_true_eq, decide_eq_false_iff_not, Bool.not_eq_true', Bool.not_eq_false', Bool.not_true, Bool.not_false] at hc) | refine ACalls.inst ?_ | refine CallP.inst rfl ?_)
  all_goals simp [inR, *]
instance pc_loc_Right (l : Int) : PureC Tryd.prog 30 [.int .i64 l] (.bool (inR 24 l)) := ⟨loc_Right_ok l⟩
instance pc_loc_Reg (l : Int) : PureC Tryd.prog 32 [.int .i64 l] (.bool (inR 8 l)) := ⟨loc_Reg_ok l⟩
instance pc_ref03_place (l : Int) : PureC Tryd.prog 34 [.int .i64 l] (.bool (inR 24 l)) := ⟨joineryref03_place_ok l⟩
instance pc_ref03_reg (l : Int) : PureC Tryd.prog 35 [.int .i64 l] (.bool (inR 8 l)) := ⟨joineryref03_reg_ok l⟩

/-- An operation's shape. -/
def shapeOf (op : Int) : ByteArray × ByteArray := shapeTbl.getD (op - 1).toNat (⟨#[]⟩, ⟨#[]⟩)
def opOk (op : Int) : Bool := decide (1 ≤ op ∧ op ≤ 18)
def wordL (op : Int) : List UInt8 := (shapeOf op).1.data.toList
def fieldL (op : Int) : List UInt8 := (shapeOf op).2.data.toList

theorem words_short : ∀ p ∈ shapeTbl, p.1.data.toList.length ≤ 5 ∧ p.2.data.toList.length ≤ 3 ∧ ∀ c ∈ p.2.data.toList, c.toNat < 128 := by decide
theorem shape_short (op : Int) : (wordL op).length ≤ 5 ∧ (fieldL op).length ≤ 3 ∧ ∀ c ∈ fieldL op, c.toNat < 128 := by
  unfold wordL fieldL shapeOf
  rw [List.getD_eq_getElem?_getD]
  cases h : shapeTbl[(op - 1).toNat]? with
  | none => simp
  | some p => exact words_short p (List.mem_of_getElem? h)

theorem shape_row (i : Nat) (h : i < 18) : ((shapeTbl.flatMap fun p => [AV.str p.1, AV.str p.2]).drop (i * 2)).take 2 = [.str (bs (wordL ((i + 1 : Nat) : Int))), .str (bs (fieldL ((i + 1 : Nat) : Int)))] := by
  match i, h with
  | 0, _ => rfl
  | 1, _ => rfl
  | 2, _ => rfl
  | 3, _ => rfl
  | 4, _ => rfl
  | 5, _ => rfl
  | 6, _ => rfl
  | 7, _ => rfl
  | 8, _ => rfl
  | 9, _ => rfl
  | 10, _ => rfl
  | 11, _ => rfl
  | 12, _ => rfl
  | 13, _ => rfl
  | 14, _ => rfl
  | 15, _ => rfl
  | 16, _ => rfl
  | 17, _ => rfl
  | n + 18, h => exact absurd h (by omega)

/-- The table. -/
theorem shape_tbl : ∃ row : List AV, (shapeTbl.flatMap fun p => [AV.str p.1, AV.str p.2]) = row ∧ row.length = 36 ∧ row.take 36 = row ∧ (∀ m, cleanAll m row = true) ∧ ∀ i : Nat, i < 18 → (row.drop (i * 2)).take 2 = [.str (bs (wordL ((i + 1 : Nat) : Int))), .str (bs (fieldL ((i + 1 : Nat) : Int)))] :=
  ⟨_, rfl, rfl, rfl, fun m => rfl, shape_row⟩

theorem ins_of_ok (op : Int) : Pure Tryd.prog 28 [.int .i64 op] (.tup [.agg (if opOk op then [.str (bs (wordL op)), .str (bs (fieldL op))] else [.str (bs []), .str (bs [])]), .bool (opOk op)]) := by
  intro H
  refine ACalls.go ins_of.low (by simp) fun hcl => ?_
  by_cases hop : opOk op = true
  · have h1 := hop
    simp [opOk] at h1
    have e1 : ¬ op < 1 := by omega
    have e2 : ¬ 18 < op := by omega
    obtain ⟨i, rfl⟩ : ∃ i : Nat, op = ((i + 1 : Nat) : Int) := ⟨(op - 1).toNat, by omega⟩
    have e3 : IntKind.i64.wrap (((i + 1 : Nat) : Int) - 1) = (i : Int) := by rw [IntKind.wrap_i64]; omega
    obtain ⟨row, hr, hl, -, -, hd⟩ := shape_tbl
    replace hd := hd i (by omega)
    have e4 : i * 2 + 2 ≤ 36 := by omega
    have e5 : (i : Int) < ((18 : Nat) : Int) := by omega
    replace h1 := Hold.mk h1
    repeat' (first | simp only [seval, ev1, ev2, ev3, ev4, beq_self_eq_true, sb, insA, encIns, *] | simp (disch := omega) only [if_pos, if_neg] | refine R.seq ?_ | refine LCB.text ?_ | refine LCB.quiet rfl ?_ | refine R.calls rfl ?_ | refine R.block ?_ | refine LCB.skip ?_ | refine LCB.exit ?_ | refine LCB.ret ?_ | (refine RetOk.val hcl ?_; simp only [seval, ev1, ev2, ev3, wk, List.forall_mem_cons, List.forall_mem_map, List.forall_mem_append, List.not_mem_nil, sb, insA, encIns, *]) | (refine Weak.at hcl ?_; simp only [seval, ev1, ev2, ev3, wk, List.forall_mem_cons, List.forall_mem_map, List.forall_mem_append, List.not_mem_nil, sb, insA, encIns, *]) | (refine LCB.cond (by (simp only [seval, ev1, ev2, ev3, ev4, beq_self_eq_true, sb, insA, encIns, *]) <;> rfl) (fun hc => ?_) (fun hc => ?_) <;> try simp only [seval, decide_eq_true_eq, decide_eq_false_iff_not, Bool.not_eq_true', Bool.not_eq_false', Bool.not_true, Bool.not_false] at hc) | (refine wpG_split (by (simp only [seval, ev1, ev2, ev3, ev4, beq_self_eq_true, sb, insA, encIns, *]) <;> rfl) (fun hc => ?_) (fun hc => ?_) <;> try simp only [seval, decide_eq_true_eq, decide_eq_false_iff_not, Bool.not_eq_true', Bool.not_eq_false', Bool.not_true, Bool.not_false] at hc) | (refine wqG_split (by (simp only [seval, ev1, ev2, ev3, ev4, beq_self_eq_true, sb, insA, encIns, *]) <;> rfl) (fun hc => ?_) (fun hc => ?_) <;> try simp only [seval, decide_eq_true_eq, decide_eq_false_iff_not, Bool.not_eq_true', Bool.not_eq_false', Bool.not_true, Bool.not_false] at hc) | refine ACalls.inst ?_ | refine CallP.inst rfl ?_)
  · have h1 : opOk op = false := by simpa using hop
    have h2 : op < 1 ∨ 18 < op := by simp [opOk] at h1; omega
    clear hop
    replace h2 := Hold.mk h2
    repeat' (first | simp only [seval, ev1, ev2, ev3, ev4, beq_self_eq_true, sb, insA, encIns, *] | simp (disch := omega) only [if_pos, if_neg] | refine R.seq ?_ | refine LCB.text ?_ | refine LCB.quiet rfl ?_ | refine R.calls rfl ?_ | refine R.block ?_ | refine LCB.skip ?_ | refine LCB.exit ?_ | refine LCB.ret ?_ | (refine RetOk.val hcl ?_; simp only [seval, ev1, ev2, ev3, wk, List.forall_mem_cons, List.forall_mem_map, List.forall_mem_append, List.not_mem_nil, sb, insA, encIns, *]) | (refine Weak.at hcl ?_; simp only [seval, ev1, ev2, ev3, wk, List.forall_mem_cons, List.forall_mem_map, List.forall_mem_append, List.not_mem_nil, sb, insA, encIns, *]) | (refine LCB.cond (by (simp only [seval, ev1, ev2, ev3, ev4, beq_self_eq_true, sb, insA, encIns, *]) <;> rfl) (fun hc => ?_) (fun hc => ?_) <;> try simp only [seval, decide_eq_true_eq, decide_eq_false_iff_not, Bool.not_eq_true', Bool.not_eq_false', Bool.not_true, Bool.not_false] at hc) | (refine wpG_split (by (simp only [seval, ev1, ev2, ev3, ev4, beq_self_eq_true, sb, insA, encIns, *]) <;> rfl) (fun hc => ?_) (fun hc => ?_) <;> try simp only [seval, decide_eq_true_eq, decide_eq_false_iff_not, Bool.not_eq_true', Bool.not_eq_false', Bool.not_true, Bool.not_false] at hc) | (refine wqG_split (by (simp only [seval, ev1, ev2, ev3, ev4, beq_self_eq_true, sb, insA, encIns, *]) <;> rfl) (fun hc => ?_) (fun hc => ?_) <;> try simp only [seval, decide_eq_true_eq, decide_eq_false_iff_not, Bool.not_eq_true', Bool.not_eq_false', Bool.not_true, Bool.not_false] at hc) | refine ACalls.inst ?_ | refine CallP.inst rfl ?_)
    exfalso; have := h2.of; omega

/-- Where a field is. -/
def offOf (c : Int) : Nat := if c = 68 ∨ c = 100 then 1 else if c = 65 ∨ c = 97 then 2 else 3

theorem ins_field_ok {H : List AObj} {k : Nat} (c : Int) (hk : k < H.length) : ACalls Tryd.prog 31 [.ptr k 1 0 0, .int .i32 c] H fun r H' => r = .ptr k 1 0 (offOf c) ∧ H' = H := by
  refine ACalls.go ins_field.low (by simp) fun hcl => ?_
  repeat' (first | simp only [seval, ev1, ev2, ev3, ev4, beq_self_eq_true, sb, insA, encIns, *] | simp (disch := omega) only [if_pos, if_neg] | refine R.seq ?_ | refine LCB.text ?_ | refine LCB.quiet rfl ?_ | refine R.calls rfl ?_ | refine R.block ?_ | refine LCB.skip ?_ | refine LCB.exit ?_ | refine LCB.ret ?_ | (refine RetOk.val hcl ?_; simp only [seval, ev1, ev2, ev3, wk, List.forall_mem_cons, List.forall_mem_map, List.forall_mem_append, List.not_mem_nil, sb, insA, encIns, *]) | (refine Weak.at hcl ?_; simp only [seval, ev1, ev2, ev3, wk, List.forall_mem_cons, List.forall_mem_map, List.forall_mem_append, List.not_mem_nil, sb, insA, encIns, *]) | (refine LCB.cond (by (simp only [seval, ev1, ev2, ev3, ev4, beq_self_eq_true, sb, insA, encIns, *]) <;> rfl) (fun hc => ?_) (fun hc => ?_) <;> try simp only [seval, decide_eq_true_eq, decide_eq_false_iff_not, Bool.not_eq_true', Bool.not_eq_false', Bool.not_true, Bool.not_false] at hc) | (refine wpG_split (by (simp only [seval, ev1, ev2, ev3, ev4, beq_self_eq_true, sb, insA, encIns, *]) <;> rfl) (fun hc => ?_) (fun hc => ?_) <;> try simp only [seval, decide_eq_true_eq, decide_eq_false_iff_not, Bool.not_eq_true', Bool.not_eq_false', Bool.not_true, Bool.not_false] at hc) | (refine wqG_split (by (simp only [seval, ev1, ev2, ev3, ev4, beq_self_eq_true, sb, insA, encIns, *]) <;> rfl) (fun hc => ?_) (fun hc => ?_) <;> try simp only [seval, decide_eq_true_eq, decide_eq_false_iff_not, Bool.not_eq_true', Bool.not_eq_false', Bool.not_true, Bool.not_false] at hc) | refine ACalls.inst ?_ | refine CallP.inst rfl ?_)
  all_goals simp [offOf, *]
end Go.Proofs.YtoiceinjademgaaDoor
