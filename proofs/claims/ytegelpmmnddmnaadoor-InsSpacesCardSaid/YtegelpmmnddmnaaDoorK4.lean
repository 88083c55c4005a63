/-
  ins: Moves, Sets, Uses; the reference's, too.
-/
import Derived.Test.YtegelpmmnddmnaaDoorK3
namespace Go.Proofs.YtegelpmmnddmnaaDoor
open Go.RowKit
set_option linter.unusedVariables false
set_option linter.unusedSimpArgs false

def movesB (op : Int) : Bool := decide (op = 1 ∨ op = 2 ∨ op = 3 ∨ op = 16)
def setsB (op : Int) : Bool := decide (4 ≤ op ∧ op ≤ 15 ∧ op ≠ 14)
def setsA (x : Ins) : AV := .tup [.int .i64 (if setsB x.op then x.d else 0), .bool (setsB x.op)]
def encI (n : Int) : List AV := [.int .i64 n]
theorem encI_def (n : Int) : encI n = [.int .i64 n] := rfl
def encInts (l : List Int) : AV := .list (l.map encI)
def isUse (c : Int) : Bool := c == 65 || c == 66
def usesL (x : Ins) : List Int := if opOk x.op && !movesB x.op then ((letters (fieldL x.op)).filter isUse).map (fieldVal x) else []

theorem ins_Moves_ok (x : Ins) : Pure Tryd.prog 23 [insA x] (.bool (movesB x.op)) := by
  intro H
  refine ACalls.go ins_Moves.low (by simp) fun hcl => ?_
  rw [insA_eq]
  generalize hm : movesB x.op = m
  replace hm := Hold.mk hm
  repeat' (first | simp only [seval, ev1, ev2, ev3, ev4, sb, insA, encIns, ins_eta, ins_dec0, ins_dec, encI_def, *] | simp (disch := omega) only [if_pos, if_neg] | refine R.seq ?_ | refine LCB.text ?_ | refine LCB.quiet rfl ?_ | refine R.calls rfl ?_ | refine R.block ?_ | refine LCB.skip ?_ | refine LCB.exit ?_ | refine LCB.ret ?_ | (refine RetOk.val hcl ?_; simp only [seval, ev1, ev2, ev3, wk, List.forall_mem_cons, List.forall_mem_map, List.forall_mem_append, List.not_mem_nil, sb, insA, encIns, ins_eta, ins_dec0, ins_dec, encI_def, *]) | (refine Weak.at hcl ?_; simp only [seval, ev1, ev2, ev3, wk, List.forall_mem_cons, List.forall_mem_map, List.forall_mem_append, List.not_mem_nil, sb, insA, encIns, ins_eta, ins_dec0, ins_dec, encI_def, *]) | (refine LCB.cond (by (simp only [seval, ev1, ev2, ev3, ev4, sb, insA, encIns, ins_eta, ins_dec0, ins_dec, encI_def, *]) <;> rfl) (fun hc => ?_) (fun hc => ?_) <;> try simp only [seval, decide_eq_true_eq, decide_eq_false_iff_not, Bool.not_eq_true', Bool.not_eq_false', Bool.not_true, Bool.not_false] at hc) | (refine wpG_split (by (simp only [seval, ev1, ev2, ev3, ev4, sb, insA, encIns, ins_eta, ins_dec0, ins_dec, encI_def, *]) <;> rfl) (fun hc => ?_) (fun hc => ?_) <;> try simp only [seval, decide_eq_true_eq, decide_eq_false_iff_not, Bool.not_eq_true', Bool.not_eq_false', Bool.not_true, Bool.not_false] at hc) | (refine wqG_split (by (simp only [seval, ev1, ev2, ev3, ev4, sb, insA, encIns, ins_eta, ins_dec0, ins_dec, encI_def, *]) <;> rfl) (fun hc => ?_) (fun hc => ?_) <;> try simp only [seval, decide_eq_true_eq, decide_eq_false_iff_not, Bool.not_eq_true', Bool.not_eq_false', Bool.not_true, Bool.not_false] at hc) | refine ACalls.inst ?_ | refine CallP.inst rfl ?_)
  all_goals rw [← hm.of]
  all_goals first | exact (decide_eq_true (by omega)).symm | exact (decide_eq_false (by omega)).symm | exact decide_eq_decide.2 (by omega)
theorem ref03_Moves_ok (x : Ins) : Pure Tryd.prog 24 [insA x] (.bool (movesB x.op)) := by
  intro H
  refine ACalls.go joineryref03_Moves.low (by simp) fun hcl => ?_
  rw [insA_eq]
  generalize hm : movesB x.op = m
  replace hm := Hold.mk hm
  repeat' (first | simp only [seval, ev1, ev2, ev3, ev4, sb, insA, encIns, ins_eta, ins_dec0, ins_dec, encI_def, *] | simp (disch := omega) only [if_pos, if_neg] | refine R.seq ?_ | refine LCB.text ?_ | refine LCB.quiet rfl ?_ | refine R.calls rfl ?_ | refine R.block ?_ | refine LCB.skip ?_ | refine LCB.exit ?_ | refine LCB.ret ?_ | (refine RetOk.val hcl ?_; simp only [seval, ev1, ev2, ev3, wk, List.forall_mem_cons, List.forall_mem_map, List.forall_mem_append, List.not_mem_nil, sb, insA, encIns, ins_eta, ins_dec0, ins_dec, encI_def, *]) | (refine Weak.at hcl ?_; simp only [seval, ev1, ev2, ev3, wk, List.forall_mem_cons, List.forall_mem_map, List.forall_mem_append, List.not_mem_nil, sb, insA, encIns, ins_eta, ins_dec0, ins_dec, encI_def, *]) | (refine LCB.cond (by (simp only [seval, ev1, ev2, ev3, ev4, sb, insA, encIns, ins_eta, ins_dec0, ins_dec, encI_def, *]) <;> rfl) (fun hc => ?_) (fun hc => ?_) <;> try simp only [seval, decide_eq_true_eq, decide_eq_false_iff_not, Bool.not_eq_true', Bool.not_eq_false', Bool.not_true, Bool.not_false] at hc) | (refine wpG_split (by (simp only [seval, ev1, ev2, ev3, ev4, sb, insA, encIns, ins_eta, ins_dec0, ins_dec, encI_def, *]) <;> rfl) (fun hc => ?_) (fun hc => ?_) <;> try simp only [seval, decide_eq_true_eq, decide_eq_false_iff_not, Bool.not_eq_true', Bool.not_eq_false', Bool.not_true, Bool.not_false] at hc) | (refine wqG_split (by (simp only [seval, ev1, ev2, ev3, ev4, sb, insA, encIns, ins_eta, ins_dec0, ins_dec, encI_def, *]) <;> rfl) (fun hc => ?_) (fun hc => ?_) <;> try simp only [seval, decide_eq_true_eq, decide_eq_false_iff_not, Bool.not_eq_true', Bool.not_eq_false', Bool.not_true, Bool.not_false] at hc) | refine ACalls.inst ?_ | refine CallP.inst rfl ?_)
  all_goals rw [← hm.of]
  all_goals first | exact (decide_eq_true (by omega)).symm | exact (decide_eq_false (by omega)).symm | exact decide_eq_decide.2 (by omega)
theorem ins_Sets_ok (x : Ins) : Pure Tryd.prog 21 [insA x] (setsA x) := by
  intro H
  refine ACalls.go ins_Sets.low (by simp) fun hcl => ?_
  rw [insA_eq]
  unfold setsA
  generalize hm : setsB x.op = m
  replace hm := Hold.mk hm
  repeat' (first | simp only [seval, ev1, ev2, ev3, ev4, sb, insA, encIns, ins_eta, ins_dec0, ins_dec, encI_def, *] | simp (disch := omega) only [if_pos, if_neg] | refine R.seq ?_ | refine LCB.text ?_ | refine LCB.quiet rfl ?_ | refine R.calls rfl ?_ | refine R.block ?_ | refine LCB.skip ?_ | refine LCB.exit ?_ | refine LCB.ret ?_ | (refine RetOk.val hcl ?_; simp only [seval, ev1, ev2, ev3, wk, List.forall_mem_cons, List.forall_mem_map, List.forall_mem_append, List.not_mem_nil, sb, insA, encIns, ins_eta, ins_dec0, ins_dec, encI_def, *]) | (refine Weak.at hcl ?_; simp only [seval, ev1, ev2, ev3, wk, List.forall_mem_cons, List.forall_mem_map, List.forall_mem_append, List.not_mem_nil, sb, insA, encIns, ins_eta, ins_dec0, ins_dec, encI_def, *]) | (refine LCB.cond (by (simp only [seval, ev1, ev2, ev3, ev4, sb, insA, encIns, ins_eta, ins_dec0, ins_dec, encI_def, *]) <;> rfl) (fun hc => ?_) (fun hc => ?_) <;> try simp only [seval, decide_eq_true_eq, decide_eq_false_iff_not, Bool.not_eq_true', Bool.not_eq_false', Bool.not_true, Bool.not_false] at hc) | (refine wpG_split (by (simp only [seval, ev1, ev2, ev3, ev4, sb, insA, encIns, ins_eta, ins_dec0, ins_dec, encI_def, *]) <;> rfl) (fun hc => ?_) (fun hc => ?_) <;> try simp only [seval, decide_eq_true_eq, decide_eq_false_iff_not, Bool.not_eq_true', Bool.not_eq_false', Bool.not_true, Bool.not_false] at hc) | (refine wqG_split (by (simp only [seval, ev1, ev2, ev3, ev4, sb, insA, encIns, ins_eta, ins_dec0, ins_dec, encI_def, *]) <;> rfl) (fun hc => ?_) (fun hc => ?_) <;> try simp only [seval, decide_eq_true_eq, decide_eq_false_iff_not, Bool.not_eq_true', Bool.not_eq_false', Bool.not_true, Bool.not_false] at hc) | refine ACalls.inst ?_ | refine CallP.inst rfl ?_)
  · have : m = true := by rw [← hm.of]; exact decide_eq_true (by omega)
    simp [this]
  all_goals
    have : m = false := by rw [← hm.of]; exact decide_eq_false (by omega)
    simp [this]
theorem ref03_Sets_ok (x : Ins) : Pure Tryd.prog 22 [insA x] (setsA x) := by
  intro H
  refine ACalls.go joineryref03_Sets.low (by simp) fun hcl => ?_
  rw [insA_eq]
  unfold setsA
  generalize hm : setsB x.op = m
  replace hm := Hold.mk hm
  repeat' (first | simp only [seval, ev1, ev2, ev3, ev4, sb, insA, encIns, ins_eta, ins_dec0, ins_dec, encI_def, *] | simp (disch := omega) only [if_pos, if_neg] | refine R.seq ?_ | refine LCB.text ?_ | refine LCB.quiet rfl ?_ | refine R.calls rfl ?_ | refine R.block ?_ | refine LCB.skip ?_ | refine LCB.exit ?_ | refine LCB.ret ?_ | (refine RetOk.val hcl ?_; simp only [seval, ev1, ev2, ev3, wk, List.forall_mem_cons, List.forall_mem_map, List.forall_mem_append, List.not_mem_nil, sb, insA, encIns, ins_eta, ins_dec0, ins_dec, encI_def, *]) | (refine Weak.at hcl ?_; simp only [seval, ev1, ev2, ev3, wk, List.forall_mem_cons, List.forall_mem_map, List.forall_mem_append, List.not_mem_nil, sb, insA, encIns, ins_eta, ins_dec0, ins_dec, encI_def, *]) | (refine LCB.cond (by (simp only [seval, ev1, ev2, ev3, ev4, sb, insA, encIns, ins_eta, ins_dec0, ins_dec, encI_def, *]) <;> rfl) (fun hc => ?_) (fun hc => ?_) <;> try simp only [seval, decide_eq_true_eq, decide_eq_false_iff_not, Bool.not_eq_true', Bool.not_eq_false', Bool.not_true, Bool.not_false] at hc) | (refine wpG_split (by (simp only [seval, ev1, ev2, ev3, ev4, sb, insA, encIns, ins_eta, ins_dec0, ins_dec, encI_def, *]) <;> rfl) (fun hc => ?_) (fun hc => ?_) <;> try simp only [seval, decide_eq_true_eq, decide_eq_false_iff_not, Bool.not_eq_true', Bool.not_eq_false', Bool.not_true, Bool.not_false] at hc) | (refine wqG_split (by (simp only [seval, ev1, ev2, ev3, ev4, sb, insA, encIns, ins_eta, ins_dec0, ins_dec, encI_def, *]) <;> rfl) (fun hc => ?_) (fun hc => ?_) <;> try simp only [seval, decide_eq_true_eq, decide_eq_false_iff_not, Bool.not_eq_true', Bool.not_eq_false', Bool.not_true, Bool.not_false] at hc) | refine ACalls.inst ?_ | refine CallP.inst rfl ?_)
  all_goals first
    | (have : m = true := by rw [← hm.of]; exact decide_eq_true (by omega)
       simp [this]; done)
    | (have : m = false := by rw [← hm.of]; exact decide_eq_false (by omega)
       simp [this]; done)
instance pc_ins_Moves (op d a b n to : Int) : PureC Tryd.prog 23 [.agg [.int .i64 op, .int .i64 d, .int .i64 a, .int .i64 b, .int .i64 n, .int .i64 to]] (.bool (movesB op)) := ⟨ins_Moves_ok ⟨op, d, a, b, n, to⟩⟩
instance pc_ref03_Moves (op d a b n to : Int) : PureC Tryd.prog 24 [.agg [.int .i64 op, .int .i64 d, .int .i64 a, .int .i64 b, .int .i64 n, .int .i64 to]] (.bool (movesB op)) := ⟨ref03_Moves_ok ⟨op, d, a, b, n, to⟩⟩

set_option maxHeartbeats 1000000 in
theorem ins_Uses_ok (x : Ins) : Pure Tryd.prog 19 [insA x] (encInts (usesL x)) := by
  intro H
  refine ACalls.go ins_Uses.low (by simp) fun hcl => ?_
  have hof := ins_of_ok x.op
  rw [insA_eq]
  obtain ⟨hs1, hs2, hs3⟩ := shape_short x.op
  replace hs3 := Hold.mk hs3
  replace hof := Hold.mk hof
  have hU : Hold (usesL x = if opOk x.op && !movesB x.op then ((letters (fieldL x.op)).filter isUse).map (fieldVal x) else []) := ⟨rfl⟩
  repeat' (first | simp only [seval, ev1, ev2, ev3, ev4, sb, insA, encIns, ins_eta, ins_dec0, ins_dec, encI_def, *] | simp (disch := omega) only [if_pos, if_neg] | refine R.seq ?_ | refine LCB.text ?_ | refine LCB.quiet rfl ?_ | refine R.calls rfl ?_ | refine R.block ?_ | refine LCB.skip ?_ | refine LCB.exit ?_ | refine LCB.ret ?_ | (refine RetOk.val hcl ?_; simp only [seval, ev1, ev2, ev3, wk, List.forall_mem_cons, List.forall_mem_map, List.forall_mem_append, List.not_mem_nil, sb, insA, encIns, ins_eta, ins_dec0, ins_dec, encI_def, *]) | (refine Weak.at hcl ?_; simp only [seval, ev1, ev2, ev3, wk, List.forall_mem_cons, List.forall_mem_map, List.forall_mem_append, List.not_mem_nil, sb, insA, encIns, ins_eta, ins_dec0, ins_dec, encI_def, *]) | (refine LCB.cond (by (simp only [seval, ev1, ev2, ev3, ev4, sb, insA, encIns, ins_eta, ins_dec0, ins_dec, encI_def, *]) <;> rfl) (fun hc => ?_) (fun hc => ?_) <;> try simp only [seval, decide_eq_true_eq, decide_eq_false_iff_not, Bool.not_eq_true', Bool.not_eq_false', Bool.not_true, Bool.not_false] at hc) | (refine wpG_split (by (simp only [seval, ev1, ev2, ev3, ev4, sb, insA, encIns, ins_eta, ins_dec0, ins_dec, encI_def, *]) <;> rfl) (fun hc => ?_) (fun hc => ?_) <;> try simp only [seval, decide_eq_true_eq, decide_eq_false_iff_not, Bool.not_eq_true', Bool.not_eq_false', Bool.not_true, Bool.not_false] at hc) | (refine wqG_split (by (simp only [seval, ev1, ev2, ev3, ev4, sb, insA, encIns, ins_eta, ins_dec0, ins_dec, encI_def, *]) <;> rfl) (fun hc => ?_) (fun hc => ?_) <;> try simp only [seval, decide_eq_true_eq, decide_eq_false_iff_not, Bool.not_eq_true', Bool.not_eq_false', Bool.not_true, Bool.not_false] at hc) | refine ACalls.inst ?_ | refine CallP.inst rfl ?_)
  refine ACalls.pure hof.of ?_
  clear hof
  cases hop : opOk x.op
  · have hc1 : encInts (usesL x) = .list [] := by rw [hU.of, hop]; rfl
    repeat' (first | simp only [seval, ev1, ev2, ev3, ev4, sb, insA, encIns, ins_eta, ins_dec0, ins_dec, encI_def, *] | simp (disch := omega) only [if_pos, if_neg] | refine R.seq ?_ | refine LCB.text ?_ | refine LCB.quiet rfl ?_ | refine R.calls rfl ?_ | refine R.block ?_ | refine LCB.skip ?_ | refine LCB.exit ?_ | refine LCB.ret ?_ | (refine RetOk.val hcl ?_; simp only [seval, ev1, ev2, ev3, wk, List.forall_mem_cons, List.forall_mem_map, List.forall_mem_append, List.not_mem_nil, sb, insA, encIns, ins_eta, ins_dec0, ins_dec, encI_def, *]) | (refine Weak.at hcl ?_; simp only [seval, ev1, ev2, ev3, wk, List.forall_mem_cons, List.forall_mem_map, List.forall_mem_append, List.not_mem_nil, sb, insA, encIns, ins_eta, ins_dec0, ins_dec, encI_def, *]) | (refine LCB.cond (by (simp only [seval, ev1, ev2, ev3, ev4, sb, insA, encIns, ins_eta, ins_dec0, ins_dec, encI_def, *]) <;> rfl) (fun hc => ?_) (fun hc => ?_) <;> try simp only [seval, decide_eq_true_eq, decide_eq_false_iff_not, Bool.not_eq_true', Bool.not_eq_false', Bool.not_true, Bool.not_false] at hc) | (refine wpG_split (by (simp only [seval, ev1, ev2, ev3, ev4, sb, insA, encIns, ins_eta, ins_dec0, ins_dec, encI_def, *]) <;> rfl) (fun hc => ?_) (fun hc => ?_) <;> try simp only [seval, decide_eq_true_eq, decide_eq_false_iff_not, Bool.not_eq_true', Bool.not_eq_false', Bool.not_true, Bool.not_false] at hc) | (refine wqG_split (by (simp only [seval, ev1, ev2, ev3, ev4, sb, insA, encIns, ins_eta, ins_dec0, ins_dec, encI_def, *]) <;> rfl) (fun hc => ?_) (fun hc => ?_) <;> try simp only [seval, decide_eq_true_eq, decide_eq_false_iff_not, Bool.not_eq_true', Bool.not_eq_false', Bool.not_true, Bool.not_false] at hc) | refine ACalls.inst ?_ | refine CallP.inst rfl ?_)
  rw [if_pos rfl]
  generalize wordL x.op = W at *
  generalize fieldL x.op = F at *
  by_cases hmv : movesB x.op = true
  · have hc1 : encInts (usesL x) = .list [] := by rw [hU.of, hop, hmv]; rfl
    repeat' (first | simp only [seval, ev1, ev2, ev3, ev4, sb, insA, encIns, ins_eta, ins_dec0, ins_dec, encI_def, *] | simp (disch := omega) only [if_pos, if_neg] | refine R.seq ?_ | refine LCB.text ?_ | refine LCB.quiet rfl ?_ | refine R.calls rfl ?_ | refine R.block ?_ | refine LCB.skip ?_ | refine LCB.exit ?_ | refine LCB.ret ?_ | (refine RetOk.val hcl ?_; simp only [seval, ev1, ev2, ev3, wk, List.forall_mem_cons, List.forall_mem_map, List.forall_mem_append, List.not_mem_nil, sb, insA, encIns, ins_eta, ins_dec0, ins_dec, encI_def, *]) | (refine Weak.at hcl ?_; simp only [seval, ev1, ev2, ev3, wk, List.forall_mem_cons, List.forall_mem_map, List.forall_mem_append, List.not_mem_nil, sb, insA, encIns, ins_eta, ins_dec0, ins_dec, encI_def, *]) | (refine LCB.cond (by (simp only [seval, ev1, ev2, ev3, ev4, sb, insA, encIns, ins_eta, ins_dec0, ins_dec, encI_def, *]) <;> rfl) (fun hc => ?_) (fun hc => ?_) <;> try simp only [seval, decide_eq_true_eq, decide_eq_false_iff_not, Bool.not_eq_true', Bool.not_eq_false', Bool.not_true, Bool.not_false] at hc) | (refine wpG_split (by (simp only [seval, ev1, ev2, ev3, ev4, sb, insA, encIns, ins_eta, ins_dec0, ins_dec, encI_def, *]) <;> rfl) (fun hc => ?_) (fun hc => ?_) <;> try simp only [seval, decide_eq_true_eq, decide_eq_false_iff_not, Bool.not_eq_true', Bool.not_eq_false', Bool.not_true, Bool.not_false] at hc) | (refine wqG_split (by (simp only [seval, ev1, ev2, ev3, ev4, sb, insA, encIns, ins_eta, ins_dec0, ins_dec, encI_def, *]) <;> rfl) (fun hc => ?_) (fun hc => ?_) <;> try simp only [seval, decide_eq_true_eq, decide_eq_false_iff_not, Bool.not_eq_true', Bool.not_eq_false', Bool.not_true, Bool.not_false] at hc) | refine ACalls.inst ?_ | refine CallP.inst rfl ?_)
  replace hmv : movesB x.op = false := by simpa using hmv
  have hU2 : Hold (usesL x = ((letters F).filter isUse).map (fieldVal x)) := ⟨by rw [hU.of, hop, hmv]; rfl⟩
  clear hU
  repeat' (first | simp only [seval, ev1, ev2, ev3, ev4, sb, insA, encIns, ins_eta, ins_dec0, ins_dec, encI_def, *] | simp (disch := omega) only [if_pos, if_neg] | refine R.seq ?_ | refine LCB.text ?_ | refine LCB.quiet rfl ?_ | refine R.calls rfl ?_ | refine R.block ?_ | refine LCB.skip ?_ | refine LCB.exit ?_ | refine LCB.ret ?_ | (refine RetOk.val hcl ?_; simp only [seval, ev1, ev2, ev3, wk, List.forall_mem_cons, List.forall_mem_map, List.forall_mem_append, List.not_mem_nil, sb, insA, encIns, ins_eta, ins_dec0, ins_dec, encI_def, *]) | (refine Weak.at hcl ?_; simp only [seval, ev1, ev2, ev3, wk, List.forall_mem_cons, List.forall_mem_map, List.forall_mem_append, List.not_mem_nil, sb, insA, encIns, ins_eta, ins_dec0, ins_dec, encI_def, *]) | (refine LCB.cond (by (simp only [seval, ev1, ev2, ev3, ev4, sb, insA, encIns, ins_eta, ins_dec0, ins_dec, encI_def, *]) <;> rfl) (fun hc => ?_) (fun hc => ?_) <;> try simp only [seval, decide_eq_true_eq, decide_eq_false_iff_not, Bool.not_eq_true', Bool.not_eq_false', Bool.not_true, Bool.not_false] at hc) | (refine wpG_split (by (simp only [seval, ev1, ev2, ev3, ev4, sb, insA, encIns, ins_eta, ins_dec0, ins_dec, encI_def, *]) <;> rfl) (fun hc => ?_) (fun hc => ?_) <;> try simp only [seval, decide_eq_true_eq, decide_eq_false_iff_not, Bool.not_eq_true', Bool.not_eq_false', Bool.not_true, Bool.not_false] at hc) | (refine wqG_split (by (simp only [seval, ev1, ev2, ev3, ev4, sb, insA, encIns, ins_eta, ins_dec0, ins_dec, encI_def, *]) <;> rfl) (fun hc => ?_) (fun hc => ?_) <;> try simp only [seval, decide_eq_true_eq, decide_eq_false_iff_not, Bool.not_eq_true', Bool.not_eq_false', Bool.not_true, Bool.not_false] at hc) | refine ACalls.inst ?_ | refine CallP.inst rfl ?_)
  refine R.loop (S := Nat × List Int) ⟨fun s => [(1, .ptr H.length 1 0 0), (5, .sl 1 (H.length + 3) s.2.length 0 s.2.length), (22, .iter (H.length + 2))], fun s => H ++ [.vec 6 [encIns x], .vec 2 [[.str (bs W), .str (bs F)]], .iter (bs F) s.1, .vec 1 (s.2.map encI)],
    fun s => s.1 ≤ F.length ∧ s.2.length ≤ s.1 ∧ s.2 ++ ((letters (F.drop s.1)).filter isUse).map (fieldVal x) = usesL x, fun s => F.length - s.1⟩ (0, []) ⟨Nat.zero_le _, Nat.zero_le _, by rw [hU2.of]; rfl⟩ ((Weak.growAt 5 1 (by omega) (by simp only [seval, ev1, ev2, ev3, ev4, sb, insA, encIns, ins_eta, ins_dec0, ins_dec, encI_def, *])).trans (Weak.at hcl ?_)) ?_
  · simp only [seval, ev1, ev2, ev3, wk, List.forall_mem_cons, List.forall_mem_map, List.forall_mem_append, List.not_mem_nil, sb, insA, encIns, ins_eta, ins_dec0, ins_dec, encI_def, *]
  rintro ⟨p, l⟩ ⟨hp, hl, hq⟩
  simp only at hp hl hq ⊢
  replace hq := Hold.mk hq
  by_cases hlt : p < F.length
  · have hd : Utf8.decode (bs F) p = ((F.getD p 0).toNat, 1) := dec_near (hs3.of _ (by simp [List.getD, hlt]))
    have hdr : letters (F.drop p) = ((F.getD p 0).toNat : Int) :: letters (F.drop (p + 1)) := by
      unfold letters
      rw [List.drop_eq_getElem_cons hlt, List.map_cons]
      simp [List.getD, hlt]
    have hq2 := hq.of
    rw [hdr, List.filter_cons] at hq2
    clear hdr
    generalize ((F.getD p 0).toNat) = c at *
    by_cases hu : isUse (c : Int) = true
    · rw [if_pos hu, List.map_cons] at hq2
      have hcc : c = 65 ∨ c = 66 := by
        unfold isUse at hu
        simp only [Bool.or_eq_true, beq_iff_eq] at hu
        omega
      have hq2 := Hold.mk hq2
      clear hu
      rcases hcc with rfl | rfl
      · have e1 : ((65 : Nat) : Int) = 65 := rfl
        have e2 : fieldVal x 65 = x.a := rfl
        have e3 : offOf 65 = 2 := rfl
        repeat' (first | simp only [seval, ev1, ev2, ev3, ev4, sb, insA, encIns, ins_eta, ins_dec0, ins_dec, encI_def, *] | simp (disch := omega) only [if_pos, if_neg] | refine R.seq ?_ | refine LCB.text ?_ | refine LCB.quiet rfl ?_ | refine R.calls rfl ?_ | refine R.block ?_ | refine LCB.skip ?_ | refine LCB.exit ?_ | refine LCB.ret ?_ | (refine RetOk.val hcl ?_; simp only [seval, ev1, ev2, ev3, wk, List.forall_mem_cons, List.forall_mem_map, List.forall_mem_append, List.not_mem_nil, sb, insA, encIns, ins_eta, ins_dec0, ins_dec, encI_def, *]) | (refine Weak.at hcl ?_; simp only [seval, ev1, ev2, ev3, wk, List.forall_mem_cons, List.forall_mem_map, List.forall_mem_append, List.not_mem_nil, sb, insA, encIns, ins_eta, ins_dec0, ins_dec, encI_def, *]) | (refine LCB.cond (by (simp only [seval, ev1, ev2, ev3, ev4, sb, insA, encIns, ins_eta, ins_dec0, ins_dec, encI_def, *]) <;> rfl) (fun hc => ?_) (fun hc => ?_) <;> try simp only [seval, decide_eq_true_eq, decide_eq_false_iff_not, Bool.not_eq_true', Bool.not_eq_false', Bool.not_true, Bool.not_false] at hc) | (refine wpG_split (by (simp only [seval, ev1, ev2, ev3, ev4, sb, insA, encIns, ins_eta, ins_dec0, ins_dec, encI_def, *]) <;> rfl) (fun hc => ?_) (fun hc => ?_) <;> try simp only [seval, decide_eq_true_eq, decide_eq_false_iff_not, Bool.not_eq_true', Bool.not_eq_false', Bool.not_true, Bool.not_false] at hc) | (refine wqG_split (by (simp only [seval, ev1, ev2, ev3, ev4, sb, insA, encIns, ins_eta, ins_dec0, ins_dec, encI_def, *]) <;> rfl) (fun hc => ?_) (fun hc => ?_) <;> try simp only [seval, decide_eq_true_eq, decide_eq_false_iff_not, Bool.not_eq_true', Bool.not_eq_false', Bool.not_true, Bool.not_false] at hc) | refine ACalls.inst ?_ | refine CallP.inst rfl ?_)
        refine (ins_field_ok _ (by simp)).mono ?_
        rintro r' H' ⟨rfl, rfl⟩
        repeat' (first | simp only [seval, ev1, ev2, ev3, ev4, sb, insA, encIns, ins_eta, ins_dec0, ins_dec, encI_def, *] | simp (disch := omega) only [if_pos, if_neg] | refine R.seq ?_ | refine LCB.text ?_ | refine LCB.quiet rfl ?_ | refine R.calls rfl ?_ | refine R.block ?_ | refine LCB.skip ?_ | refine LCB.exit ?_ | refine LCB.ret ?_ | (refine RetOk.val hcl ?_; simp only [seval, ev1, ev2, ev3, wk, List.forall_mem_cons, List.forall_mem_map, List.forall_mem_append, List.not_mem_nil, sb, insA, encIns, ins_eta, ins_dec0, ins_dec, encI_def, *]) | (refine Weak.at hcl ?_; simp only [seval, ev1, ev2, ev3, wk, List.forall_mem_cons, List.forall_mem_map, List.forall_mem_append, List.not_mem_nil, sb, insA, encIns, ins_eta, ins_dec0, ins_dec, encI_def, *]) | (refine LCB.cond (by (simp only [seval, ev1, ev2, ev3, ev4, sb, insA, encIns, ins_eta, ins_dec0, ins_dec, encI_def, *]) <;> rfl) (fun hc => ?_) (fun hc => ?_) <;> try simp only [seval, decide_eq_true_eq, decide_eq_false_iff_not, Bool.not_eq_true', Bool.not_eq_false', Bool.not_true, Bool.not_false] at hc) | (refine wpG_split (by (simp only [seval, ev1, ev2, ev3, ev4, sb, insA, encIns, ins_eta, ins_dec0, ins_dec, encI_def, *]) <;> rfl) (fun hc => ?_) (fun hc => ?_) <;> try simp only [seval, decide_eq_true_eq, decide_eq_false_iff_not, Bool.not_eq_true', Bool.not_eq_false', Bool.not_true, Bool.not_false] at hc) | (refine wqG_split (by (simp only [seval, ev1, ev2, ev3, ev4, sb, insA, encIns, ins_eta, ins_dec0, ins_dec, encI_def, *]) <;> rfl) (fun hc => ?_) (fun hc => ?_) <;> try simp only [seval, decide_eq_true_eq, decide_eq_false_iff_not, Bool.not_eq_true', Bool.not_eq_false', Bool.not_true, Bool.not_false] at hc) | refine ACalls.inst ?_ | refine CallP.inst rfl ?_)
        refine ⟨(p + 1, l ++ [x.a]), ⟨hlt, by simp only [List.length_append, List.length_cons, List.length_nil]; omega, ?_⟩, by simp only; omega, Weak.at hcl ?_⟩
        · rw [← hq2.of, e1, e2]; simp
        · simp only [seval, ev1, ev2, ev3, wk, List.forall_mem_cons, List.forall_mem_map, List.forall_mem_append, List.not_mem_nil, sb, insA, encIns, ins_eta, ins_dec0, ins_dec, encI_def, *]
      · have e1 : ((66 : Nat) : Int) = 66 := rfl
        have e2 : fieldVal x 66 = x.b := rfl
        have e3 : offOf 66 = 3 := rfl
        repeat' (first | simp only [seval, ev1, ev2, ev3, ev4, sb, insA, encIns, ins_eta, ins_dec0, ins_dec, encI_def, *] | simp (disch := omega) only [if_pos, if_neg] | refine R.seq ?_ | refine LCB.text ?_ | refine LCB.quiet rfl ?_ | refine R.calls rfl ?_ | refine R.block ?_ | refine LCB.skip ?_ | refine LCB.exit ?_ | refine LCB.ret ?_ | (refine RetOk.val hcl ?_; simp only [seval, ev1, ev2, ev3, wk, List.forall_mem_cons, List.forall_mem_map, List.forall_mem_append, List.not_mem_nil, sb, insA, encIns, ins_eta, ins_dec0, ins_dec, encI_def, *]) | (refine Weak.at hcl ?_; simp only [seval, ev1, ev2, ev3, wk, List.forall_mem_cons, List.forall_mem_map, List.forall_mem_append, List.not_mem_nil, sb, insA, encIns, ins_eta, ins_dec0, ins_dec, encI_def, *]) | (refine LCB.cond (by (simp only [seval, ev1, ev2, ev3, ev4, sb, insA, encIns, ins_eta, ins_dec0, ins_dec, encI_def, *]) <;> rfl) (fun hc => ?_) (fun hc => ?_) <;> try simp only [seval, decide_eq_true_eq, decide_eq_false_iff_not, Bool.not_eq_true', Bool.not_eq_false', Bool.not_true, Bool.not_false] at hc) | (refine wpG_split (by (simp only [seval, ev1, ev2, ev3, ev4, sb, insA, encIns, ins_eta, ins_dec0, ins_dec, encI_def, *]) <;> rfl) (fun hc => ?_) (fun hc => ?_) <;> try simp only [seval, decide_eq_true_eq, decide_eq_false_iff_not, Bool.not_eq_true', Bool.not_eq_false', Bool.not_true, Bool.not_false] at hc) | (refine wqG_split (by (simp only [seval, ev1, ev2, ev3, ev4, sb, insA, encIns, ins_eta, ins_dec0, ins_dec, encI_def, *]) <;> rfl) (fun hc => ?_) (fun hc => ?_) <;> try simp only [seval, decide_eq_true_eq, decide_eq_false_iff_not, Bool.not_eq_true', Bool.not_eq_false', Bool.not_true, Bool.not_false] at hc) | refine ACalls.inst ?_ | refine CallP.inst rfl ?_)
        refine (ins_field_ok _ (by simp)).mono ?_
        rintro r' H' ⟨rfl, rfl⟩
        repeat' (first | simp only [seval, ev1, ev2, ev3, ev4, sb, insA, encIns, ins_eta, ins_dec0, ins_dec, encI_def, *] | simp (disch := omega) only [if_pos, if_neg] | refine R.seq ?_ | refine LCB.text ?_ | refine LCB.quiet rfl ?_ | refine R.calls rfl ?_ | refine R.block ?_ | refine LCB.skip ?_ | refine LCB.exit ?_ | refine LCB.ret ?_ | (refine RetOk.val hcl ?_; simp only [seval, ev1, ev2, ev3, wk, List.forall_mem_cons, List.forall_mem_map, List.forall_mem_append, List.not_mem_nil, sb, insA, encIns, ins_eta, ins_dec0, ins_dec, encI_def, *]) | (refine Weak.at hcl ?_; simp only [seval, ev1, ev2, ev3, wk, List.forall_mem_cons, List.forall_mem_map, List.forall_mem_append, List.not_mem_nil, sb, insA, encIns, ins_eta, ins_dec0, ins_dec, encI_def, *]) | (refine LCB.cond (by (simp only [seval, ev1, ev2, ev3, ev4, sb, insA, encIns, ins_eta, ins_dec0, ins_dec, encI_def, *]) <;> rfl) (fun hc => ?_) (fun hc => ?_) <;> try simp only [seval, decide_eq_true_eq, decide_eq_false_iff_not, Bool.not_eq_true', Bool.not_eq_false', Bool.not_true, Bool.not_false] at hc) | (refine wpG_split (by (simp only [seval, ev1, ev2, ev3, ev4, sb, insA, encIns, ins_eta, ins_dec0, ins_dec, encI_def, *]) <;> rfl) (fun hc => ?_) (fun hc => ?_) <;> try simp only [seval, decide_eq_true_eq, decide_eq_false_iff_not, Bool.not_eq_true', Bool.not_eq_false', Bool.not_true, Bool.not_false] at hc) | (refine wqG_split (by (simp only [seval, ev1, ev2, ev3, ev4, sb, insA, encIns, ins_eta, ins_dec0, ins_dec, encI_def, *]) <;> rfl) (fun hc => ?_) (fun hc => ?_) <;> try simp only [seval, decide_eq_true_eq, decide_eq_false_iff_not, Bool.not_eq_true', Bool.not_eq_false', Bool.not_true, Bool.not_false] at hc) | refine ACalls.inst ?_ | refine CallP.inst rfl ?_)
        refine ⟨(p + 1, l ++ [x.b]), ⟨hlt, by simp only [List.length_append, List.length_cons, List.length_nil]; omega, ?_⟩, by simp only; omega, Weak.at hcl ?_⟩
        · rw [← hq2.of, e1, e2]; simp
        · simp only [seval, ev1, ev2, ev3, wk, List.forall_mem_cons, List.forall_mem_map, List.forall_mem_append, List.not_mem_nil, sb, insA, encIns, ins_eta, ins_dec0, ins_dec, encI_def, *]
    · rw [if_neg hu] at hq2
      have hcc : ¬ (c : Int) = 65 ∧ ¬ (c : Int) = 66 := by
        unfold isUse at hu
        simp only [Bool.or_eq_true, beq_iff_eq] at hu
        omega
      obtain ⟨h65, h66⟩ := hcc
      replace hq2 := Hold.mk hq2
      clear hu
      repeat' (first | simp only [seval, ev1, ev2, ev3, ev4, sb, insA, encIns, ins_eta, ins_dec0, ins_dec, encI_def, *] | simp (disch := omega) only [if_pos, if_neg] | refine R.seq ?_ | refine LCB.text ?_ | refine LCB.quiet rfl ?_ | refine R.calls rfl ?_ | refine R.block ?_ | refine LCB.skip ?_ | refine LCB.exit ?_ | refine LCB.ret ?_ | (refine RetOk.val hcl ?_; simp only [seval, ev1, ev2, ev3, wk, List.forall_mem_cons, List.forall_mem_map, List.forall_mem_append, List.not_mem_nil, sb, insA, encIns, ins_eta, ins_dec0, ins_dec, encI_def, *]) | (refine Weak.at hcl ?_; simp only [seval, ev1, ev2, ev3, wk, List.forall_mem_cons, List.forall_mem_map, List.forall_mem_append, List.not_mem_nil, sb, insA, encIns, ins_eta, ins_dec0, ins_dec, encI_def, *]) | (refine LCB.cond (by (simp only [seval, ev1, ev2, ev3, ev4, sb, insA, encIns, ins_eta, ins_dec0, ins_dec, encI_def, *]) <;> rfl) (fun hc => ?_) (fun hc => ?_) <;> try simp only [seval, decide_eq_true_eq, decide_eq_false_iff_not, Bool.not_eq_true', Bool.not_eq_false', Bool.not_true, Bool.not_false] at hc) | (refine wpG_split (by (simp only [seval, ev1, ev2, ev3, ev4, sb, insA, encIns, ins_eta, ins_dec0, ins_dec, encI_def, *]) <;> rfl) (fun hc => ?_) (fun hc => ?_) <;> try simp only [seval, decide_eq_true_eq, decide_eq_false_iff_not, Bool.not_eq_true', Bool.not_eq_false', Bool.not_true, Bool.not_false] at hc) | (refine wqG_split (by (simp only [seval, ev1, ev2, ev3, ev4, sb, insA, encIns, ins_eta, ins_dec0, ins_dec, encI_def, *]) <;> rfl) (fun hc => ?_) (fun hc => ?_) <;> try simp only [seval, decide_eq_true_eq, decide_eq_false_iff_not, Bool.not_eq_true', Bool.not_eq_false', Bool.not_true, Bool.not_false] at hc) | refine ACalls.inst ?_ | refine CallP.inst rfl ?_)
      refine ⟨(p + 1, l), ⟨hlt, by simp only; omega, hq2.of⟩, by simp only; omega, Weak.at hcl ?_⟩
      simp only [seval, ev1, ev2, ev3, wk, List.forall_mem_cons, List.forall_mem_map, List.forall_mem_append, List.not_mem_nil, sb, insA, encIns, ins_eta, ins_dec0, ins_dec, encI_def, *]
  · have hp' : p = F.length := by omega
    subst hp'
    have hx : l = usesL x := by
      have := hq.of
      simpa [letters] using this
    rw [← hx]
    unfold encInts
    repeat' (first | simp only [seval, ev1, ev2, ev3, ev4, sb, insA, encIns, ins_eta, ins_dec0, ins_dec, encI_def, *] | simp (disch := omega) only [if_pos, if_neg] | refine R.seq ?_ | refine LCB.text ?_ | refine LCB.quiet rfl ?_ | refine R.calls rfl ?_ | refine R.block ?_ | refine LCB.skip ?_ | refine LCB.exit ?_ | refine LCB.ret ?_ | (refine RetOk.val hcl ?_; simp only [seval, ev1, ev2, ev3, wk, List.forall_mem_cons, List.forall_mem_map, List.forall_mem_append, List.not_mem_nil, sb, insA, encIns, ins_eta, ins_dec0, ins_dec, encI_def, *]) | (refine Weak.at hcl ?_; simp only [seval, ev1, ev2, ev3, wk, List.forall_mem_cons, List.forall_mem_map, List.forall_mem_append, List.not_mem_nil, sb, insA, encIns, ins_eta, ins_dec0, ins_dec, encI_def, *]) | (refine LCB.cond (by (simp only [seval, ev1, ev2, ev3, ev4, sb, insA, encIns, ins_eta, ins_dec0, ins_dec, encI_def, *]) <;> rfl) (fun hc => ?_) (fun hc => ?_) <;> try simp only [seval, decide_eq_true_eq, decide_eq_false_iff_not, Bool.not_eq_true', Bool.not_eq_false', Bool.not_true, Bool.not_false] at hc) | (refine wpG_split (by (simp only [seval, ev1, ev2, ev3, ev4, sb, insA, encIns, ins_eta, ins_dec0, ins_dec, encI_def, *]) <;> rfl) (fun hc => ?_) (fun hc => ?_) <;> try simp only [seval, decide_eq_true_eq, decide_eq_false_iff_not, Bool.not_eq_true', Bool.not_eq_false', Bool.not_true, Bool.not_false] at hc) | (refine wqG_split (by (simp only [seval, ev1, ev2, ev3, ev4, sb, insA, encIns, ins_eta, ins_dec0, ins_dec, encI_def, *]) <;> rfl) (fun hc => ?_) (fun hc => ?_) <;> try simp only [seval, decide_eq_true_eq, decide_eq_false_iff_not, Bool.not_eq_true', Bool.not_eq_false', Bool.not_true, Bool.not_false] at hc) | refine ACalls.inst ?_ | refine CallP.inst rfl ?_)

def usesR (x : Ins) : List Int := if (4 ≤ x.op ∧ x.op ≤ 12) ∨ x.op = 14 then [x.a, x.b] else if x.op = 13 ∨ x.op = 15 ∨ x.op = 17 ∨ x.op = 18 then [x.a] else []
theorem ref03_Uses_ok (x : Ins) : Pure Tryd.prog 20 [insA x] (encInts (usesR x)) := by
  intro H
  refine ACalls.go joineryref03_Uses.low (by simp) fun hcl => ?_
  rw [insA_eq]
  unfold encInts
  generalize hm : usesR x = m
  replace hm := Hold.mk hm
  repeat' (first | simp only [seval, ev1, ev2, ev3, ev4, sb, insA, encIns, ins_eta, ins_dec0, ins_dec, encI_def, *] | simp (disch := omega) only [if_pos, if_neg] | refine R.seq ?_ | refine LCB.text ?_ | refine LCB.quiet rfl ?_ | refine R.calls rfl ?_ | refine R.block ?_ | refine LCB.skip ?_ | refine LCB.exit ?_ | refine LCB.ret ?_ | (refine RetOk.val hcl ?_; simp only [seval, ev1, ev2, ev3, wk, List.forall_mem_cons, List.forall_mem_map, List.forall_mem_append, List.not_mem_nil, sb, insA, encIns, ins_eta, ins_dec0, ins_dec, encI_def, *]) | (refine Weak.at hcl ?_; simp only [seval, ev1, ev2, ev3, wk, List.forall_mem_cons, List.forall_mem_map, List.forall_mem_append, List.not_mem_nil, sb, insA, encIns, ins_eta, ins_dec0, ins_dec, encI_def, *]) | (refine LCB.cond (by (simp only [seval, ev1, ev2, ev3, ev4, sb, insA, encIns, ins_eta, ins_dec0, ins_dec, encI_def, *]) <;> rfl) (fun hc => ?_) (fun hc => ?_) <;> try simp only [seval, decide_eq_true_eq, decide_eq_false_iff_not, Bool.not_eq_true', Bool.not_eq_false', Bool.not_true, Bool.not_false] at hc) | (refine wpG_split (by (simp only [seval, ev1, ev2, ev3, ev4, sb, insA, encIns, ins_eta, ins_dec0, ins_dec, encI_def, *]) <;> rfl) (fun hc => ?_) (fun hc => ?_) <;> try simp only [seval, decide_eq_true_eq, decide_eq_false_iff_not, Bool.not_eq_true', Bool.not_eq_false', Bool.not_true, Bool.not_false] at hc) | (refine wqG_split (by (simp only [seval, ev1, ev2, ev3, ev4, sb, insA, encIns, ins_eta, ins_dec0, ins_dec, encI_def, *]) <;> rfl) (fun hc => ?_) (fun hc => ?_) <;> try simp only [seval, decide_eq_true_eq, decide_eq_false_iff_not, Bool.not_eq_true', Bool.not_eq_false', Bool.not_true, Bool.not_false] at hc) | refine ACalls.inst ?_ | refine CallP.inst rfl ?_)
  all_goals rw [← hm.of]
  all_goals unfold usesR
  all_goals first
    | (rw [if_pos (by omega)]; rfl)
    | (rw [if_neg (by omega), if_pos (by omega)]; rfl)
    | (rw [if_neg (by omega), if_neg (by omega)]; rfl)
end Go.Proofs.YtegelpmmnddmnaaDoor
