/-
  ins: the reference's only and Check; plain laws.
-/
import Derived.Test.YtoiceinjademgaaDoorK3
namespace Go.Proofs.YtoiceinjademgaaDoor
open Go.RowKit
set_option linter.unusedVariables false
set_option linter.unusedSimpArgs false

theorem op_cases {op : Int} (h : opOk op = true) : op = 1 ∨ op = 2 ∨ op = 3 ∨ op = 4 ∨ op = 5 ∨ op = 6 ∨ op = 7 ∨ op = 8 ∨ op = 9 ∨ op = 10 ∨ op = 11 ∨ op = 12 ∨ op = 13 ∨ op = 14 ∨ op = 15 ∨ op = 16 ∨ op = 17 ∨ op = 18 := by
  simp [opOk] at h; omega

def sel (b : Bool) (v : Int) : Int := if b then v else 0
def keepN (op : Int) : Bool := decide (op = 1 ∨ op = 15)
def keepTo (op : Int) : Bool := decide (op = 16 ∨ op = 17)
def keepD (op : Int) : Bool := decide (op ≤ 13 ∨ op = 15)
def keepA (op : Int) : Bool := decide (op ≠ 1 ∧ op ≠ 16)
def keepB (op : Int) : Bool := decide ((4 ≤ op ∧ op ≤ 12) ∨ op = 14)
def onlyR (x : Ins) : Ins := ⟨x.op, sel (keepD x.op) x.d, sel (keepA x.op) x.a, sel (keepB x.op) x.b, sel (keepN x.op) x.n, sel (keepTo x.op) x.to⟩

theorem sel_f (b : Bool) (v : Int) (h : b = false) : 0 = sel b v := by rw [h]; rfl
theorem sel_t (b : Bool) (v : Int) (h : b = true) : v = sel b v := by rw [h]; rfl

theorem ref03_only_ok (x : Ins) : Pure Tryd.prog 33 [insA x] (insA (onlyR x)) := by
  intro H
  refine ACalls.go joineryref03_only.low (by simp) fun hcl => ?_
  rw [insA_eq]
  have ho : onlyR x = ⟨x.op, sel (keepD x.op) x.d, sel (keepA x.op) x.a, sel (keepB x.op) x.b, sel (keepN x.op) x.n, sel (keepTo x.op) x.to⟩ := rfl
  rw [ho]
  clear ho
  (refine R.seq ?_; refine LCB.text ?_; repeat' (first | simp only [seval, ev1, ev2, ev3, ev4, beq_self_eq_true, sb, insA, encIns, ins_eta, ins_dec0, ins_dec, *] | simp (disch := omega) only [if_pos, if_neg]))
  (refine R.seq ?_; refine LCB.text ?_; repeat' (first | simp only [seval, ev1, ev2, ev3, ev4, beq_self_eq_true, sb, insA, encIns, ins_eta, ins_dec0, ins_dec, *] | simp (disch := omega) only [if_pos, if_neg]))
  refine R.cut [(1, .ptr H.length 1 0 0), (3, .ptr (H.length + 2) 1 0 0), (2, .ptr (H.length + 1) 1 0 0)] (H ++ [.vec 6 [encIns x], .vec 6 [encIns ⟨0, 0, 0, 0, 0, 0⟩], .vec 6 [encIns ⟨x.op, 0, 0, 0, sel (keepN x.op) x.n, 0⟩]]) ?_ ?_
  · repeat' (first | simp only [seval, ev1, ev2, ev3, ev4, beq_self_eq_true, sb, insA, encIns, ins_eta, ins_dec0, ins_dec, *] | simp (disch := omega) only [if_pos, if_neg] | refine R.seq ?_ | refine LCB.text ?_ | refine LCB.quiet rfl ?_ | refine R.calls rfl ?_ | refine R.block ?_ | refine LCB.skip ?_ | refine LCB.exit ?_ | refine LCB.ret ?_ | (refine RetOk.val hcl ?_; simp only [seval, ev1, ev2, ev3, wk, List.forall_mem_cons, List.forall_mem_map, List.forall_mem_append, List.not_mem_nil, sb, insA, encIns, ins_eta, ins_dec0, ins_dec, *]) | (refine Weak.at hcl ?_; simp only [seval, ev1, ev2, ev3, wk, List.forall_mem_cons, List.forall_mem_map, List.forall_mem_append, List.not_mem_nil, sb, insA, encIns, ins_eta, ins_dec0, ins_dec, *]) | (refine LCB.cond (by (simp only [seval, ev1, ev2, ev3, ev4, beq_self_eq_true, sb, insA, encIns, ins_eta, ins_dec0, ins_dec, *]) <;> rfl) (fun hc => ?_) (fun hc => ?_) <;> try simp only [seval, decide_eq_true_eq, decide_eq_false_iff_not, Bool.not_eq_true', Bool.not_eq_false', Bool.not_true, Bool.not_false] at hc) | (refine wpG_split (by (simp only [seval, ev1, ev2, ev3, ev4, beq_self_eq_true, sb, insA, encIns, ins_eta, ins_dec0, ins_dec, *]) <;> rfl) (fun hc => ?_) (fun hc => ?_) <;> try simp only [seval, decide_eq_true_eq, decide_eq_false_iff_not, Bool.not_eq_true', Bool.not_eq_false', Bool.not_true, Bool.not_false] at hc) | (refine wqG_split (by (simp only [seval, ev1, ev2, ev3, ev4, beq_self_eq_true, sb, insA, encIns, ins_eta, ins_dec0, ins_dec, *]) <;> rfl) (fun hc => ?_) (fun hc => ?_) <;> try simp only [seval, decide_eq_true_eq, decide_eq_false_iff_not, Bool.not_eq_true', Bool.not_eq_false', Bool.not_true, Bool.not_false] at hc) | refine ACalls.inst ?_ | refine CallP.inst rfl ?_)
    all_goals (simp [sel, keepN, keepTo, keepD, keepA, keepB, *] <;> omega)
  refine R.cut [(1, .ptr H.length 1 0 0), (3, .ptr (H.length + 2) 1 0 0), (2, .ptr (H.length + 1) 1 0 0)] (H ++ [.vec 6 [encIns x], .vec 6 [encIns ⟨0, 0, 0, 0, 0, 0⟩], .vec 6 [encIns ⟨x.op, 0, 0, 0, sel (keepN x.op) x.n, sel (keepTo x.op) x.to⟩]]) ?_ ?_
  · repeat' (first | simp only [seval, ev1, ev2, ev3, ev4, beq_self_eq_true, sb, insA, encIns, ins_eta, ins_dec0, ins_dec, *] | simp (disch := omega) only [if_pos, if_neg] | refine R.seq ?_ | refine LCB.text ?_ | refine LCB.quiet rfl ?_ | refine R.calls rfl ?_ | refine R.block ?_ | refine LCB.skip ?_ | refine LCB.exit ?_ | refine LCB.ret ?_ | (refine RetOk.val hcl ?_; simp only [seval, ev1, ev2, ev3, wk, List.forall_mem_cons, List.forall_mem_map, List.forall_mem_append, List.not_mem_nil, sb, insA, encIns, ins_eta, ins_dec0, ins_dec, *]) | (refine Weak.at hcl ?_; simp only [seval, ev1, ev2, ev3, wk, List.forall_mem_cons, List.forall_mem_map, List.forall_mem_append, List.not_mem_nil, sb, insA, encIns, ins_eta, ins_dec0, ins_dec, *]) | (refine LCB.cond (by (simp only [seval, ev1, ev2, ev3, ev4, beq_self_eq_true, sb, insA, encIns, ins_eta, ins_dec0, ins_dec, *]) <;> rfl) (fun hc => ?_) (fun hc => ?_) <;> try simp only [seval, decide_eq_true_eq, decide_eq_false_iff_not, Bool.not_eq_true', Bool.not_eq_false', Bool.not_true, Bool.not_false] at hc) | (refine wpG_split (by (simp only [seval, ev1, ev2, ev3, ev4, beq_self_eq_true, sb, insA, encIns, ins_eta, ins_dec0, ins_dec, *]) <;> rfl) (fun hc => ?_) (fun hc => ?_) <;> try simp only [seval, decide_eq_true_eq, decide_eq_false_iff_not, Bool.not_eq_true', Bool.not_eq_false', Bool.not_true, Bool.not_false] at hc) | (refine wqG_split (by (simp only [seval, ev1, ev2, ev3, ev4, beq_self_eq_true, sb, insA, encIns, ins_eta, ins_dec0, ins_dec, *]) <;> rfl) (fun hc => ?_) (fun hc => ?_) <;> try simp only [seval, decide_eq_true_eq, decide_eq_false_iff_not, Bool.not_eq_true', Bool.not_eq_false', Bool.not_true, Bool.not_false] at hc) | refine ACalls.inst ?_ | refine CallP.inst rfl ?_)
    all_goals (simp [sel, keepN, keepTo, keepD, keepA, keepB, *] <;> omega)
  refine R.cut [(1, .ptr H.length 1 0 0), (3, .ptr (H.length + 2) 1 0 0), (2, .ptr (H.length + 1) 1 0 0)] (H ++ [.vec 6 [encIns x], .vec 6 [encIns ⟨0, 0, 0, 0, 0, 0⟩], .vec 6 [encIns ⟨x.op, sel (keepD x.op) x.d, 0, 0, sel (keepN x.op) x.n, sel (keepTo x.op) x.to⟩]]) ?_ ?_
  · repeat' (first | simp only [seval, ev1, ev2, ev3, ev4, beq_self_eq_true, sb, insA, encIns, ins_eta, ins_dec0, ins_dec, *] | simp (disch := omega) only [if_pos, if_neg] | refine R.seq ?_ | refine LCB.text ?_ | refine LCB.quiet rfl ?_ | refine R.calls rfl ?_ | refine R.block ?_ | refine LCB.skip ?_ | refine LCB.exit ?_ | refine LCB.ret ?_ | (refine RetOk.val hcl ?_; simp only [seval, ev1, ev2, ev3, wk, List.forall_mem_cons, List.forall_mem_map, List.forall_mem_append, List.not_mem_nil, sb, insA, encIns, ins_eta, ins_dec0, ins_dec, *]) | (refine Weak.at hcl ?_; simp only [seval, ev1, ev2, ev3, wk, List.forall_mem_cons, List.forall_mem_map, List.forall_mem_append, List.not_mem_nil, sb, insA, encIns, ins_eta, ins_dec0, ins_dec, *]) | (refine LCB.cond (by (simp only [seval, ev1, ev2, ev3, ev4, beq_self_eq_true, sb, insA, encIns, ins_eta, ins_dec0, ins_dec, *]) <;> rfl) (fun hc => ?_) (fun hc => ?_) <;> try simp only [seval, decide_eq_true_eq, decide_eq_false_iff_not, Bool.not_eq_true', Bool.not_eq_false', Bool.not_true, Bool.not_false] at hc) | (refine wpG_split (by (simp only [seval, ev1, ev2, ev3, ev4, beq_self_eq_true, sb, insA, encIns, ins_eta, ins_dec0, ins_dec, *]) <;> rfl) (fun hc => ?_) (fun hc => ?_) <;> try simp only [seval, decide_eq_true_eq, decide_eq_false_iff_not, Bool.not_eq_true', Bool.not_eq_false', Bool.not_true, Bool.not_false] at hc) | (refine wqG_split (by (simp only [seval, ev1, ev2, ev3, ev4, beq_self_eq_true, sb, insA, encIns, ins_eta, ins_dec0, ins_dec, *]) <;> rfl) (fun hc => ?_) (fun hc => ?_) <;> try simp only [seval, decide_eq_true_eq, decide_eq_false_iff_not, Bool.not_eq_true', Bool.not_eq_false', Bool.not_true, Bool.not_false] at hc) | refine ACalls.inst ?_ | refine CallP.inst rfl ?_)
    all_goals (simp [sel, keepN, keepTo, keepD, keepA, keepB, *] <;> omega)
  refine R.cut [(1, .ptr H.length 1 0 0), (3, .ptr (H.length + 2) 1 0 0), (2, .ptr (H.length + 1) 1 0 0)] (H ++ [.vec 6 [encIns x], .vec 6 [encIns ⟨0, 0, 0, 0, 0, 0⟩], .vec 6 [encIns ⟨x.op, sel (keepD x.op) x.d, sel (keepA x.op) x.a, 0, sel (keepN x.op) x.n, sel (keepTo x.op) x.to⟩]]) ?_ ?_
  · repeat' (first | simp only [seval, ev1, ev2, ev3, ev4, beq_self_eq_true, sb, insA, encIns, ins_eta, ins_dec0, ins_dec, *] | simp (disch := omega) only [if_pos, if_neg] | refine R.seq ?_ | refine LCB.text ?_ | refine LCB.quiet rfl ?_ | refine R.calls rfl ?_ | refine R.block ?_ | refine LCB.skip ?_ | refine LCB.exit ?_ | refine LCB.ret ?_ | (refine RetOk.val hcl ?_; simp only [seval, ev1, ev2, ev3, wk, List.forall_mem_cons, List.forall_mem_map, List.forall_mem_append, List.not_mem_nil, sb, insA, encIns, ins_eta, ins_dec0, ins_dec, *]) | (refine Weak.at hcl ?_; simp only [seval, ev1, ev2, ev3, wk, List.forall_mem_cons, List.forall_mem_map, List.forall_mem_append, List.not_mem_nil, sb, insA, encIns, ins_eta, ins_dec0, ins_dec, *]) | (refine LCB.cond (by (simp only [seval, ev1, ev2, ev3, ev4, beq_self_eq_true, sb, insA, encIns, ins_eta, ins_dec0, ins_dec, *]) <;> rfl) (fun hc => ?_) (fun hc => ?_) <;> try simp only [seval, decide_eq_true_eq, decide_eq_false_iff_not, Bool.not_eq_true', Bool.not_eq_false', Bool.not_true, Bool.not_false] at hc) | (refine wpG_split (by (simp only [seval, ev1, ev2, ev3, ev4, beq_self_eq_true, sb, insA, encIns, ins_eta, ins_dec0, ins_dec, *]) <;> rfl) (fun hc => ?_) (fun hc => ?_) <;> try simp only [seval, decide_eq_true_eq, decide_eq_false_iff_not, Bool.not_eq_true', Bool.not_eq_false', Bool.not_true, Bool.not_false] at hc) | (refine wqG_split (by (simp only [seval, ev1, ev2, ev3, ev4, beq_self_eq_true, sb, insA, encIns, ins_eta, ins_dec0, ins_dec, *]) <;> rfl) (fun hc => ?_) (fun hc => ?_) <;> try simp only [seval, decide_eq_true_eq, decide_eq_false_iff_not, Bool.not_eq_true', Bool.not_eq_false', Bool.not_true, Bool.not_false] at hc) | refine ACalls.inst ?_ | refine CallP.inst rfl ?_)
    all_goals (simp [sel, keepN, keepTo, keepD, keepA, keepB, *] <;> omega)
  refine R.cut [(1, .ptr H.length 1 0 0), (3, .ptr (H.length + 2) 1 0 0), (2, .ptr (H.length + 1) 1 0 0)] (H ++ [.vec 6 [encIns x], .vec 6 [encIns ⟨0, 0, 0, 0, 0, 0⟩], .vec 6 [encIns ⟨x.op, sel (keepD x.op) x.d, sel (keepA x.op) x.a, sel (keepB x.op) x.b, sel (keepN x.op) x.n, sel (keepTo x.op) x.to⟩]]) ?_ ?_
  · repeat' (first | simp only [seval, ev1, ev2, ev3, ev4, beq_self_eq_true, sb, insA, encIns, ins_eta, ins_dec0, ins_dec, *] | simp (disch := omega) only [if_pos, if_neg] | refine R.seq ?_ | refine LCB.text ?_ | refine LCB.quiet rfl ?_ | refine R.calls rfl ?_ | refine R.block ?_ | refine LCB.skip ?_ | refine LCB.exit ?_ | refine LCB.ret ?_ | (refine RetOk.val hcl ?_; simp only [seval, ev1, ev2, ev3, wk, List.forall_mem_cons, List.forall_mem_map, List.forall_mem_append, List.not_mem_nil, sb, insA, encIns, ins_eta, ins_dec0, ins_dec, *]) | (refine Weak.at hcl ?_; simp only [seval, ev1, ev2, ev3, wk, List.forall_mem_cons, List.forall_mem_map, List.forall_mem_append, List.not_mem_nil, sb, insA, encIns, ins_eta, ins_dec0, ins_dec, *]) | (refine LCB.cond (by (simp only [seval, ev1, ev2, ev3, ev4, beq_self_eq_true, sb, insA, encIns, ins_eta, ins_dec0, ins_dec, *]) <;> rfl) (fun hc => ?_) (fun hc => ?_) <;> try simp only [seval, decide_eq_true_eq, decide_eq_false_iff_not, Bool.not_eq_true', Bool.not_eq_false', Bool.not_true, Bool.not_false] at hc) | (refine wpG_split (by (simp only [seval, ev1, ev2, ev3, ev4, beq_self_eq_true, sb, insA, encIns, ins_eta, ins_dec0, ins_dec, *]) <;> rfl) (fun hc => ?_) (fun hc => ?_) <;> try simp only [seval, decide_eq_true_eq, decide_eq_false_iff_not, Bool.not_eq_true', Bool.not_eq_false', Bool.not_true, Bool.not_false] at hc) | (refine wqG_split (by (simp only [seval, ev1, ev2, ev3, ev4, beq_self_eq_true, sb, insA, encIns, ins_eta, ins_dec0, ins_dec, *]) <;> rfl) (fun hc => ?_) (fun hc => ?_) <;> try simp only [seval, decide_eq_true_eq, decide_eq_false_iff_not, Bool.not_eq_true', Bool.not_eq_false', Bool.not_true, Bool.not_false] at hc) | refine ACalls.inst ?_ | refine CallP.inst rfl ?_)
    all_goals (simp [sel, keepN, keepTo, keepD, keepA, keepB, *] <;> omega)
  repeat' (first | simp only [seval, ev1, ev2, ev3, ev4, beq_self_eq_true, sb, insA, encIns, ins_eta, ins_dec0, ins_dec, *] | simp (disch := omega) only [if_pos, if_neg] | refine R.seq ?_ | refine LCB.text ?_ | refine LCB.quiet rfl ?_ | refine R.calls rfl ?_ | refine R.block ?_ | refine LCB.skip ?_ | refine LCB.exit ?_ | refine LCB.ret ?_ | (refine RetOk.val hcl ?_; simp only [seval, ev1, ev2, ev3, wk, List.forall_mem_cons, List.forall_mem_map, List.forall_mem_append, List.not_mem_nil, sb, insA, encIns, ins_eta, ins_dec0, ins_dec, *]) | (refine Weak.at hcl ?_; simp only [seval, ev1, ev2, ev3, wk, List.forall_mem_cons, List.forall_mem_map, List.forall_mem_append, List.not_mem_nil, sb, insA, encIns, ins_eta, ins_dec0, ins_dec, *]) | (refine LCB.cond (by (simp only [seval, ev1, ev2, ev3, ev4, beq_self_eq_true, sb, insA, encIns, ins_eta, ins_dec0, ins_dec, *]) <;> rfl) (fun hc => ?_) (fun hc => ?_) <;> try simp only [seval, decide_eq_true_eq, decide_eq_false_iff_not, Bool.not_eq_true', Bool.not_eq_false', Bool.not_true, Bool.not_false] at hc) | (refine wpG_split (by (simp only [seval, ev1, ev2, ev3, ev4, beq_self_eq_true, sb, insA, encIns, ins_eta, ins_dec0, ins_dec, *]) <;> rfl) (fun hc => ?_) (fun hc => ?_) <;> try simp only [seval, decide_eq_true_eq, decide_eq_false_iff_not, Bool.not_eq_true', Bool.not_eq_false', Bool.not_true, Bool.not_false] at hc) | (refine wqG_split (by (simp only [seval, ev1, ev2, ev3, ev4, beq_self_eq_true, sb, insA, encIns, ins_eta, ins_dec0, ins_dec, *]) <;> rfl) (fun hc => ?_) (fun hc => ?_) <;> try simp only [seval, decide_eq_true_eq, decide_eq_false_iff_not, Bool.not_eq_true', Bool.not_eq_false', Bool.not_true, Bool.not_false] at hc) | refine ACalls.inst ?_ | refine CallP.inst rfl ?_)
instance pc_ref03_only (op d a b n to : Int) : PureC Tryd.prog 33 [.agg [.int .i64 op, .int .i64 d, .int .i64 a, .int .i64 b, .int .i64 n, .int .i64 to]] (insA (onlyR ⟨op, d, a, b, n, to⟩)) := ⟨ref03_only_ok ⟨op, d, a, b, n, to⟩⟩

def badFormR (x : Ins) : Bool := (decide (x.op < 1) || decide (18 < x.op)) || (onlyR x != x || (x.op == 15 && (decide (x.n < 0) || decide (99 < x.n))))
def badPlaceR (x : Ins) : Bool := if x.op ≤ 3 then !(inR 24 x.d && inR 24 x.a) else !(inR 8 x.d && (inR 8 x.a && inR 8 x.b))
def chkR (x : Ins) (n : Int) : Int := if badFormR x then 1 else if badPlaceR x then 6 else if (x.op == 16 || x.op == 17) && farOff x n then 4 else 0

theorem form_same (x : Ins) : badForm x = badFormR x := by
  obtain ⟨op, d, a, b, n, to⟩ := x
  cases hok : opOk op
  · have h : ¬ (1 ≤ op ∧ op ≤ 18) := by simpa [opOk] using hok
    unfold badForm badFormR
    simp only [hok, Bool.not_false, Bool.true_or]
    symm
    rw [Bool.or_eq_true]
    left
    simp
    omega
  · rw [Bool.eq_iff_iff]
    rcases op_cases hok with rfl | rfl | rfl | rfl | rfl | rfl | rfl | rfl | rfl | rfl | rfl | rfl | rfl | rfl | rfl | rfl | rfl | rfl
    all_goals simp [badForm, badFormR, opOk, restOf, letters, fieldL, shapeOf, shapeTbl, zeroAt, noIns, onlyR, sel, keepN, keepTo, keepD, keepA, keepB]
    all_goals omega

theorem place_same (x : Ins) (h : badForm x = false) : (letters (fieldL x.op)).any (badPlace x) = badPlaceR x := by
  have hok : opOk x.op = true := by
    unfold badForm at h
    simp only [Bool.or_eq_false_iff] at h
    simpa using h.1.1
  obtain ⟨op, d, a, b, n, to⟩ := x
  simp only at hok ⊢
  rw [Bool.eq_iff_iff]
  rcases op_cases hok with rfl | rfl | rfl | rfl | rfl | rfl | rfl | rfl | rfl | rfl | rfl | rfl | rfl | rfl | rfl | rfl | rfl | rfl
  all_goals simp [badForm, opOk, restOf, letters, fieldL, shapeOf, shapeTbl, zeroAt, noIns] at h
  all_goals simp [letters, fieldL, shapeOf, shapeTbl, badPlace, badPlaceR, inR, fieldVal]
  all_goals omega

theorem to_same (op : Int) (hok : opOk op = true) : (letters (fieldL op)).contains 84 = (op == 16 || op == 17) := by
  rcases op_cases hok with rfl | rfl | rfl | rfl | rfl | rfl | rfl | rfl | rfl | rfl | rfl | rfl | rfl | rfl | rfl | rfl | rfl | rfl <;> rfl

theorem chk_same (x : Ins) (n : Int) : chk x n = chkR x n := by
  unfold chk chkR
  rw [← form_same]
  cases hb : badForm x
  · have hok : opOk x.op = true := by
      unfold badForm at hb
      simp only [Bool.or_eq_false_iff] at hb
      simpa using hb.1.1
    rw [place_same x hb, to_same _ hok]
  · rfl

theorem ref03_Check_ok (x : Ins) (n : Int) : Pure Tryd.prog 21 [insA x, .int .i64 n] (.int .i64 (chk x n)) := by
  rw [chk_same]
  intro H
  refine ACalls.go joineryref03_Check.low (by simp) fun hcl => ?_
  rw [insA_eq]
  (refine R.seq ?_; refine LCB.text ?_; repeat' (first | simp only [seval, ev1, ev2, ev3, ev4, beq_self_eq_true, sb, insA, encIns, ins_eta, ins_dec0, ins_dec, *] | simp (disch := omega) only [if_pos, if_neg]))
  refine R.seq (R.cut [(1, .int .i64 n), (2, .ptr H.length 1 0 0), (33, .bool (badFormR x))] (H ++ [.vec 6 [encIns x]]) ?_ ?_)
  · repeat' (first | simp only [seval, ev1, ev2, ev3, ev4, beq_self_eq_true, sb, insA, encIns, ins_eta, ins_dec0, ins_dec, *] | simp (disch := omega) only [if_pos, if_neg] | refine R.seq ?_ | refine LCB.text ?_ | refine LCB.quiet rfl ?_ | refine R.calls rfl ?_ | refine R.block ?_ | refine LCB.skip ?_ | refine LCB.exit ?_ | refine LCB.ret ?_ | (refine RetOk.val hcl ?_; simp only [seval, ev1, ev2, ev3, wk, List.forall_mem_cons, List.forall_mem_map, List.forall_mem_append, List.not_mem_nil, sb, insA, encIns, ins_eta, ins_dec0, ins_dec, *]) | (refine Weak.at hcl ?_; simp only [seval, ev1, ev2, ev3, wk, List.forall_mem_cons, List.forall_mem_map, List.forall_mem_append, List.not_mem_nil, sb, insA, encIns, ins_eta, ins_dec0, ins_dec, *]) | (refine LCB.cond (by (simp only [seval, ev1, ev2, ev3, ev4, beq_self_eq_true, sb, insA, encIns, ins_eta, ins_dec0, ins_dec, *]) <;> rfl) (fun hc => ?_) (fun hc => ?_) <;> try simp only [seval, decide_eq_true_eq, decide_eq_false_iff_not, Bool.not_eq_true', Bool.not_eq_false', Bool.not_true, Bool.not_false] at hc) | (refine wpG_split (by (simp only [seval, ev1, ev2, ev3, ev4, beq_self_eq_true, sb, insA, encIns, ins_eta, ins_dec0, ins_dec, *]) <;> rfl) (fun hc => ?_) (fun hc => ?_) <;> try simp only [seval, decide_eq_true_eq, decide_eq_false_iff_not, Bool.not_eq_true', Bool.not_eq_false', Bool.not_true, Bool.not_false] at hc) | (refine wqG_split (by (simp only [seval, ev1, ev2, ev3, ev4, beq_self_eq_true, sb, insA, encIns, ins_eta, ins_dec0, ins_dec, *]) <;> rfl) (fun hc => ?_) (fun hc => ?_) <;> try simp only [seval, decide_eq_true_eq, decide_eq_false_iff_not, Bool.not_eq_true', Bool.not_eq_false', Bool.not_true, Bool.not_false] at hc) | refine ACalls.inst ?_ | refine CallP.inst rfl ?_)
    all_goals (simp [badFormR, *] <;> omega)
  repeat' (first | simp only [seval, ev1, ev2, ev3, ev4, beq_self_eq_true, sb, insA, encIns, ins_eta, ins_dec0, ins_dec, *] | simp (disch := omega) only [if_pos, if_neg] | refine R.seq ?_ | refine LCB.text ?_ | refine LCB.quiet rfl ?_ | refine R.calls rfl ?_ | refine R.block ?_ | refine LCB.skip ?_ | refine LCB.exit ?_ | refine LCB.ret ?_ | (refine RetOk.val hcl ?_; simp only [seval, ev1, ev2, ev3, wk, List.forall_mem_cons, List.forall_mem_map, List.forall_mem_append, List.not_mem_nil, sb, insA, encIns, ins_eta, ins_dec0, ins_dec, *]) | (refine Weak.at hcl ?_; simp only [seval, ev1, ev2, ev3, wk, List.forall_mem_cons, List.forall_mem_map, List.forall_mem_append, List.not_mem_nil, sb, insA, encIns, ins_eta, ins_dec0, ins_dec, *]) | (refine LCB.cond (by (simp only [seval, ev1, ev2, ev3, ev4, beq_self_eq_true, sb, insA, encIns, ins_eta, ins_dec0, ins_dec, *]) <;> rfl) (fun hc => ?_) (fun hc => ?_) <;> try simp only [seval, decide_eq_true_eq, decide_eq_false_iff_not, Bool.not_eq_true', Bool.not_eq_false', Bool.not_true, Bool.not_false] at hc) | (refine wpG_split (by (simp only [seval, ev1, ev2, ev3, ev4, beq_self_eq_true, sb, insA, encIns, ins_eta, ins_dec0, ins_dec, *]) <;> rfl) (fun hc => ?_) (fun hc => ?_) <;> try simp only [seval, decide_eq_true_eq, decide_eq_false_iff_not, Bool.not_eq_true', Bool.not_eq_false', Bool.not_true, Bool.not_false] at hc) | (refine wqG_split (by (simp only [seval, ev1, ev2, ev3, ev4, beq_self_eq_true, sb, insA, encIns, ins_eta, ins_dec0, ins_dec, *]) <;> rfl) (fun hc => ?_) (fun hc => ?_) <;> try simp only [seval, decide_eq_true_eq, decide_eq_false_iff_not, Bool.not_eq_true', Bool.not_eq_false', Bool.not_true, Bool.not_false] at hc) | refine ACalls.inst ?_ | refine CallP.inst rfl ?_)
  all_goals (simp [chkR, badPlaceR, farOff, *] <;> omega)
end Go.Proofs.YtoiceinjademgaaDoor
