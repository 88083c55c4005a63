/-
  Texts of this claim, put together.
-/
import Derived.Laws.BitsLemmas
import Derived.Test.YtbkbehkjndmabaaDoorZ6
/-
  asm: which functions are right.
-/
namespace Go.Proofs.YtbkbehkjndmabaaDoor
open Go.RowKit
set_option linter.unusedVariables false
set_option linter.unusedSimpArgs false

def encFn (f : List Ins) : AV := .list (f.map encIns)
theorem getD_encIns {l : List Ins} {j : Nat} (h : j < l.length) : (l.map encIns).getD j [] = encIns (l.getD j noIns) := by
  simp [List.getD, h]
theorem drop_ins {l : List Ins} {j : Nat} (h : j < l.length) : l.drop j = l.getD j noIns :: l.drop (j + 1) := by
  rw [List.drop_eq_getElem_cons h]
  simp [List.getD, h]
/-- The first wrong instruction. -/
def badAt (n : Int) : Nat → List Ins → Option (Nat × Int)
  | _, [] => none
  | i, x :: r => if chk x n = 0 then badAt n (i + 1) r else some (i, chk x n)
def lastOp (f : List Ins) : Int := (f.getD (f.length - 1) noIns).op
def fnChk (f : List Ins) : Int × Int := if 200 < f.length then (0, 3) else if f.length = 0 then (0, 5) else match badAt (f.length : Int) 0 f with
  | some (i, e) => ((i : Int), e)
  | none => if lastOp f = 16 ∨ lastOp f = 18 then (0, 0) else (((f.length - 1 : Nat) : Int), 5)
def fnChkA (f : List Ins) : AV := .tup [.int .i64 (fnChk f).1, .int .i64 (fnChk f).2]
theorem fnChkA_eq {f : List Ins} {a b : Int} (h : fnChk f = (a, b)) : fnChkA f = .tup [.int .i64 a, .int .i64 b] := by
  unfold fnChkA
  rw [h]
theorem fnChk_full {f : List Ins} (h : 200 < f.length) : fnChk f = (0, 3) := by unfold fnChk; rw [if_pos h]
theorem fnChk_nil {f : List Ins} (h : f.length = 0) : fnChk f = (0, 5) := by unfold fnChk; rw [if_neg (by omega), if_pos h]
theorem fnChk_bad {f : List Ins} {i : Nat} {e : Int} (h1 : ¬ 200 < f.length) (h2 : ¬ f.length = 0) (h : badAt (f.length : Int) 0 f = some (i, e)) : fnChk f = ((i : Int), e) := by
  unfold fnChk; rw [if_neg h1, if_neg h2, h]
theorem fnChk_good {f : List Ins} (h1 : ¬ 200 < f.length) (h2 : ¬ f.length = 0) (h : badAt (f.length : Int) 0 f = none) : fnChk f = if lastOp f = 16 ∨ lastOp f = 18 then (0, 0) else (((f.length - 1 : Nat) : Int), 5) := by
  unfold fnChk; rw [if_neg h1, if_neg h2, h]

theorem asm_Check_ok (f : List Ins) : Pure Tryd.prog 55 [encFn f] (fnChkA f) := by
  intro H
  refine ACalls.go asm_Check.low (by simp) fun hcl => ?_
  unfold encFn
  by_cases hl : 200 < f.length
  · have e1 : (200 : Int) < (f.length : Int) := by omega
    have hr := fnChkA_eq (fnChk_full hl)
    repeat' (first | simp only [seval, evo, beq_self_eq_true, encB_def, sb, insA, encIns, ins_dec, ins_eta, List.length_append, *] | simp (disch := omega) only [if_pos, if_neg] | refine R.seq ?_ | refine LCB.text ?_ | refine LCB.quiet rfl ?_ | refine R.calls rfl ?_ | refine R.block ?_ | refine LCB.skip ?_ | refine LCB.exit ?_ | refine LCB.ret ?_ | ((first | refine RetOk.val hcl ?_ | refine Weak.at hcl ?_); simp only [seval, evw, List.forall_mem_cons, List.forall_mem_map, List.forall_mem_append, List.not_mem_nil, encB_def, sb, insA, encIns, ins_dec, ins_eta, List.length_append, *]) | ((first | refine LCB.cond (by simp only [seval, evo] <;> rfl) ?_ ?_ | refine wpG_split (by simp only [seval, evo] <;> rfl) ?_ ?_ | refine wqG_split (by simp only [seval, evo] <;> rfl) ?_ ?_) <;> (intro hc; try simp only [seval, nf] at hc)) | refine ACalls.inst ?_ | refine CallP.inst rfl ?_)
  have e1 : ¬ (200 : Int) < (f.length : Int) := by omega
  by_cases h0 : f.length = 0
  · have e2 : (f.length : Int) = 0 := by omega
    have hr := fnChkA_eq (fnChk_nil h0)
    clear e1 hl
    repeat' (first | simp only [seval, evo, beq_self_eq_true, encB_def, sb, insA, encIns, ins_dec, ins_eta, List.length_append, *] | simp (disch := omega) only [if_pos, if_neg] | refine R.seq ?_ | refine LCB.text ?_ | refine LCB.quiet rfl ?_ | refine R.calls rfl ?_ | refine R.block ?_ | refine LCB.skip ?_ | refine LCB.exit ?_ | refine LCB.ret ?_ | ((first | refine RetOk.val hcl ?_ | refine Weak.at hcl ?_); simp only [seval, evw, List.forall_mem_cons, List.forall_mem_map, List.forall_mem_append, List.not_mem_nil, encB_def, sb, insA, encIns, ins_dec, ins_eta, List.length_append, *]) | ((first | refine LCB.cond (by simp only [seval, evo] <;> rfl) ?_ ?_ | refine wpG_split (by simp only [seval, evo] <;> rfl) ?_ ?_ | refine wqG_split (by simp only [seval, evo] <;> rfl) ?_ ?_) <;> (intro hc; try simp only [seval, nf] at hc)) | refine ACalls.inst ?_ | refine CallP.inst rfl ?_)
  have e2 : ¬ (f.length : Int) = 0 := by omega
  have hbad := fun i e => fnChk_bad (i := i) (e := e) hl h0
  have hgood := fnChk_good hl h0
  replace hbad := Hold.mk hbad
  replace hgood := Hold.mk hgood
  repeat' (first | simp only [seval, evo, beq_self_eq_true, encB_def, sb, insA, encIns, ins_dec, ins_eta, List.length_append, *] | simp (disch := omega) only [if_pos, if_neg] | refine R.seq ?_ | refine LCB.text ?_ | refine LCB.quiet rfl ?_ | refine R.calls rfl ?_ | refine R.block ?_ | refine LCB.skip ?_ | refine LCB.exit ?_ | refine LCB.ret ?_ | ((first | refine RetOk.val hcl ?_ | refine Weak.at hcl ?_); simp only [seval, evw, List.forall_mem_cons, List.forall_mem_map, List.forall_mem_append, List.not_mem_nil, encB_def, sb, insA, encIns, ins_dec, ins_eta, List.length_append, *]) | ((first | refine LCB.cond (by simp only [seval, evo] <;> rfl) ?_ ?_ | refine wpG_split (by simp only [seval, evo] <;> rfl) ?_ ?_ | refine wqG_split (by simp only [seval, evo] <;> rfl) ?_ ?_) <;> (intro hc; try simp only [seval, nf] at hc)) | refine ACalls.inst ?_ | refine CallP.inst rfl ?_)
  refine R.loop (S := Nat) ⟨fun i => [(0, .list (f.map encIns)), (16, .list (f.map encIns)), (17, .int .i64 (f.length : Int)), (18, .int .i64 (i : Int))], fun i => H ++ [], fun i => i ≤ f.length ∧ badAt (f.length : Int) i (f.drop i) = badAt (f.length : Int) 0 f, fun i => f.length - i⟩ 0 ⟨Nat.zero_le _, rfl⟩ (Weak.at hcl ?_) ?_
  · simp only [seval, evw, List.forall_mem_cons, List.forall_mem_map, List.forall_mem_append, List.not_mem_nil, encB_def, sb, insA, encIns, ins_dec, ins_eta, List.length_append, *]
  rintro i ⟨hi, hq⟩
  simp only at hi hq ⊢
  by_cases hlt : i < f.length
  · have hg := getD_encIns hlt
    rw [drop_ins hlt, badAt] at hq
    have e3 : (i : Int) < (f.length : Int) := by omega
    have e4 : IntKind.i64.wrap ((i : Int) + 1) = ((i + 1 : Nat) : Int) := by rw [IntKind.wrap_i64]; omega
    have hc1 := ins_Check_ok (f.getD i noIns) (f.length : Int)
    generalize f.getD i noIns = x at *
    rw [insA_eq] at hc1
    replace hc1 := Hold.mk hc1
    by_cases hk : chk x (f.length : Int) = 0
    · rw [if_pos hk] at hq
      replace hq := Hold.mk hq
      repeat' (first | simp only [seval, evo, beq_self_eq_true, encB_def, sb, insA, encIns, ins_dec, ins_eta, List.length_append, *] | simp (disch := omega) only [if_pos, if_neg] | refine R.seq ?_ | refine LCB.text ?_ | refine LCB.quiet rfl ?_ | refine R.calls rfl ?_ | refine R.block ?_ | refine LCB.skip ?_ | refine LCB.exit ?_ | refine LCB.ret ?_ | ((first | refine RetOk.val hcl ?_ | refine Weak.at hcl ?_); simp only [seval, evw, List.forall_mem_cons, List.forall_mem_map, List.forall_mem_append, List.not_mem_nil, encB_def, sb, insA, encIns, ins_dec, ins_eta, List.length_append, *]) | ((first | refine LCB.cond (by simp only [seval, evo] <;> rfl) ?_ ?_ | refine wpG_split (by simp only [seval, evo] <;> rfl) ?_ ?_ | refine wqG_split (by simp only [seval, evo] <;> rfl) ?_ ?_) <;> (intro hc; try simp only [seval, nf] at hc)) | refine ACalls.inst ?_ | refine CallP.inst rfl ?_)
      first | refine ACalls.pure (hc1.of) ?_ | refine CallP.pure (hc1.of) rfl ?_ | refine CallX.pure (hc1.of) ?_
      repeat' (first | simp only [seval, evo, beq_self_eq_true, encB_def, sb, insA, encIns, ins_dec, ins_eta, List.length_append, *] | simp (disch := omega) only [if_pos, if_neg] | refine R.seq ?_ | refine LCB.text ?_ | refine LCB.quiet rfl ?_ | refine R.calls rfl ?_ | refine R.block ?_ | refine LCB.skip ?_ | refine LCB.exit ?_ | refine LCB.ret ?_ | ((first | refine RetOk.val hcl ?_ | refine Weak.at hcl ?_); simp only [seval, evw, List.forall_mem_cons, List.forall_mem_map, List.forall_mem_append, List.not_mem_nil, encB_def, sb, insA, encIns, ins_dec, ins_eta, List.length_append, *]) | ((first | refine LCB.cond (by simp only [seval, evo] <;> rfl) ?_ ?_ | refine wpG_split (by simp only [seval, evo] <;> rfl) ?_ ?_ | refine wqG_split (by simp only [seval, evo] <;> rfl) ?_ ?_) <;> (intro hc; try simp only [seval, nf] at hc)) | refine ACalls.inst ?_ | refine CallP.inst rfl ?_)
      refine ⟨i + 1, ⟨hlt, hq.of⟩, by simp only; omega, Weak.at hcl ?_⟩
      simp only [seval, evw, List.forall_mem_cons, List.forall_mem_map, List.forall_mem_append, List.not_mem_nil, encB_def, sb, insA, encIns, ins_dec, ins_eta, List.length_append, *]
    · rw [if_neg hk] at hq
      have hr := fnChkA_eq (hbad.of _ _ hq.symm)
      replace hq := Hold.mk hq
      repeat' (first | simp only [seval, evo, beq_self_eq_true, encB_def, sb, insA, encIns, ins_dec, ins_eta, List.length_append, *] | simp (disch := omega) only [if_pos, if_neg] | refine R.seq ?_ | refine LCB.text ?_ | refine LCB.quiet rfl ?_ | refine R.calls rfl ?_ | refine R.block ?_ | refine LCB.skip ?_ | refine LCB.exit ?_ | refine LCB.ret ?_ | ((first | refine RetOk.val hcl ?_ | refine Weak.at hcl ?_); simp only [seval, evw, List.forall_mem_cons, List.forall_mem_map, List.forall_mem_append, List.not_mem_nil, encB_def, sb, insA, encIns, ins_dec, ins_eta, List.length_append, *]) | ((first | refine LCB.cond (by simp only [seval, evo] <;> rfl) ?_ ?_ | refine wpG_split (by simp only [seval, evo] <;> rfl) ?_ ?_ | refine wqG_split (by simp only [seval, evo] <;> rfl) ?_ ?_) <;> (intro hc; try simp only [seval, nf] at hc)) | refine ACalls.inst ?_ | refine CallP.inst rfl ?_)
      first | refine ACalls.pure (hc1.of) ?_ | refine CallP.pure (hc1.of) rfl ?_ | refine CallX.pure (hc1.of) ?_
      repeat' (first | simp only [seval, evo, beq_self_eq_true, encB_def, sb, insA, encIns, ins_dec, ins_eta, List.length_append, *] | simp (disch := omega) only [if_pos, if_neg] | refine R.seq ?_ | refine LCB.text ?_ | refine LCB.quiet rfl ?_ | refine R.calls rfl ?_ | refine R.block ?_ | refine LCB.skip ?_ | refine LCB.exit ?_ | refine LCB.ret ?_ | ((first | refine RetOk.val hcl ?_ | refine Weak.at hcl ?_); simp only [seval, evw, List.forall_mem_cons, List.forall_mem_map, List.forall_mem_append, List.not_mem_nil, encB_def, sb, insA, encIns, ins_dec, ins_eta, List.length_append, *]) | ((first | refine LCB.cond (by simp only [seval, evo] <;> rfl) ?_ ?_ | refine wpG_split (by simp only [seval, evo] <;> rfl) ?_ ?_ | refine wqG_split (by simp only [seval, evo] <;> rfl) ?_ ?_) <;> (intro hc; try simp only [seval, nf] at hc)) | refine ACalls.inst ?_ | refine CallP.inst rfl ?_)
  · have hie : i = f.length := by omega
    subst hie
    rw [List.drop_length, badAt] at hq
    have hlast := hgood.of hq.symm
    clear hq
    have e3 : ¬ (f.length : Int) < (f.length : Int) := by omega
    have e5 : IntKind.i64.wrap ((f.length : Int) - 1) = ((f.length - 1 : Nat) : Int) := by rw [IntKind.wrap_i64]; omega
    have hg := getD_encIns (l := f) (j := f.length - 1) (by omega)
    have e6 : ((f.length - 1 : Nat) : Int) < (f.length : Int) := by omega
    have e7 : f.length - 1 < f.length := by omega
    unfold lastOp at hlast
    generalize f.getD (f.length - 1) noIns = x at *
    by_cases o1 : x.op = 16
    · rw [if_pos (.inl o1)] at hlast
      have hr := fnChkA_eq hlast
      replace hlast := Hold.mk hlast
      repeat' (first | simp only [seval, evo, beq_self_eq_true, encB_def, sb, insA, encIns, ins_dec, ins_eta, List.length_append, *] | simp (disch := omega) only [if_pos, if_neg] | refine R.seq ?_ | refine LCB.text ?_ | refine LCB.quiet rfl ?_ | refine R.calls rfl ?_ | refine R.block ?_ | refine LCB.skip ?_ | refine LCB.exit ?_ | refine LCB.ret ?_ | ((first | refine RetOk.val hcl ?_ | refine Weak.at hcl ?_); simp only [seval, evw, List.forall_mem_cons, List.forall_mem_map, List.forall_mem_append, List.not_mem_nil, encB_def, sb, insA, encIns, ins_dec, ins_eta, List.length_append, *]) | ((first | refine LCB.cond (by simp only [seval, evo] <;> rfl) ?_ ?_ | refine wpG_split (by simp only [seval, evo] <;> rfl) ?_ ?_ | refine wqG_split (by simp only [seval, evo] <;> rfl) ?_ ?_) <;> (intro hc; try simp only [seval, nf] at hc)) | refine ACalls.inst ?_ | refine CallP.inst rfl ?_)
    · by_cases o2 : x.op = 18
      · rw [if_pos (.inr o2)] at hlast
        have hr := fnChkA_eq hlast
        replace hlast := Hold.mk hlast
        repeat' (first | simp only [seval, evo, beq_self_eq_true, encB_def, sb, insA, encIns, ins_dec, ins_eta, List.length_append, *] | simp (disch := omega) only [if_pos, if_neg] | refine R.seq ?_ | refine LCB.text ?_ | refine LCB.quiet rfl ?_ | refine R.calls rfl ?_ | refine R.block ?_ | refine LCB.skip ?_ | refine LCB.exit ?_ | refine LCB.ret ?_ | ((first | refine RetOk.val hcl ?_ | refine Weak.at hcl ?_); simp only [seval, evw, List.forall_mem_cons, List.forall_mem_map, List.forall_mem_append, List.not_mem_nil, encB_def, sb, insA, encIns, ins_dec, ins_eta, List.length_append, *]) | ((first | refine LCB.cond (by simp only [seval, evo] <;> rfl) ?_ ?_ | refine wpG_split (by simp only [seval, evo] <;> rfl) ?_ ?_ | refine wqG_split (by simp only [seval, evo] <;> rfl) ?_ ?_) <;> (intro hc; try simp only [seval, nf] at hc)) | refine ACalls.inst ?_ | refine CallP.inst rfl ?_)
      · rw [if_neg (by simp [o1, o2])] at hlast
        have hr := fnChkA_eq hlast
        replace hlast := Hold.mk hlast
        repeat' (first | simp only [seval, evo, beq_self_eq_true, encB_def, sb, insA, encIns, ins_dec, ins_eta, List.length_append, *] | simp (disch := omega) only [if_pos, if_neg] | refine R.seq ?_ | refine LCB.text ?_ | refine LCB.quiet rfl ?_ | refine R.calls rfl ?_ | refine R.block ?_ | refine LCB.skip ?_ | refine LCB.exit ?_ | refine LCB.ret ?_ | ((first | refine RetOk.val hcl ?_ | refine Weak.at hcl ?_); simp only [seval, evw, List.forall_mem_cons, List.forall_mem_map, List.forall_mem_append, List.not_mem_nil, encB_def, sb, insA, encIns, ins_dec, ins_eta, List.length_append, *]) | ((first | refine LCB.cond (by simp only [seval, evo] <;> rfl) ?_ ?_ | refine wpG_split (by simp only [seval, evo] <;> rfl) ?_ ?_ | refine wqG_split (by simp only [seval, evo] <;> rfl) ?_ ?_) <;> (intro hc; try simp only [seval, nf] at hc)) | refine ACalls.inst ?_ | refine CallP.inst rfl ?_)

theorem ref04_Check_ok (f : List Ins) : Pure Tryd.prog 52 [encFn f] (fnChkA f) := by
  intro H
  refine ACalls.go joineryref04_Check.low (by simp) fun hcl => ?_
  unfold encFn
  by_cases hl : 200 < f.length
  · have e1 : (200 : Int) < (f.length : Int) := by omega
    have hr := fnChkA_eq (fnChk_full hl)
    repeat' (first | simp only [seval, evo, beq_self_eq_true, encB_def, sb, insA, encIns, ins_dec, ins_eta, List.length_append, *] | simp (disch := omega) only [if_pos, if_neg] | refine R.seq ?_ | refine LCB.text ?_ | refine LCB.quiet rfl ?_ | refine R.calls rfl ?_ | refine R.block ?_ | refine LCB.skip ?_ | refine LCB.exit ?_ | refine LCB.ret ?_ | ((first | refine RetOk.val hcl ?_ | refine Weak.at hcl ?_); simp only [seval, evw, List.forall_mem_cons, List.forall_mem_map, List.forall_mem_append, List.not_mem_nil, encB_def, sb, insA, encIns, ins_dec, ins_eta, List.length_append, *]) | ((first | refine LCB.cond (by simp only [seval, evo] <;> rfl) ?_ ?_ | refine wpG_split (by simp only [seval, evo] <;> rfl) ?_ ?_ | refine wqG_split (by simp only [seval, evo] <;> rfl) ?_ ?_) <;> (intro hc; try simp only [seval, nf] at hc)) | refine ACalls.inst ?_ | refine CallP.inst rfl ?_)
  have e1 : ¬ (200 : Int) < (f.length : Int) := by omega
  by_cases h0 : f.length = 0
  · have e2 : (f.length : Int) = 0 := by omega
    have hr := fnChkA_eq (fnChk_nil h0)
    clear e1 hl
    repeat' (first | simp only [seval, evo, beq_self_eq_true, encB_def, sb, insA, encIns, ins_dec, ins_eta, List.length_append, *] | simp (disch := omega) only [if_pos, if_neg] | refine R.seq ?_ | refine LCB.text ?_ | refine LCB.quiet rfl ?_ | refine R.calls rfl ?_ | refine R.block ?_ | refine LCB.skip ?_ | refine LCB.exit ?_ | refine LCB.ret ?_ | ((first | refine RetOk.val hcl ?_ | refine Weak.at hcl ?_); simp only [seval, evw, List.forall_mem_cons, List.forall_mem_map, List.forall_mem_append, List.not_mem_nil, encB_def, sb, insA, encIns, ins_dec, ins_eta, List.length_append, *]) | ((first | refine LCB.cond (by simp only [seval, evo] <;> rfl) ?_ ?_ | refine wpG_split (by simp only [seval, evo] <;> rfl) ?_ ?_ | refine wqG_split (by simp only [seval, evo] <;> rfl) ?_ ?_) <;> (intro hc; try simp only [seval, nf] at hc)) | refine ACalls.inst ?_ | refine CallP.inst rfl ?_)
  have e2 : ¬ (f.length : Int) = 0 := by omega
  have hbad := fun i e => fnChk_bad (i := i) (e := e) hl h0
  have hgood := fnChk_good hl h0
  replace hbad := Hold.mk hbad
  replace hgood := Hold.mk hgood
  repeat' (first | simp only [seval, evo, beq_self_eq_true, encB_def, sb, insA, encIns, ins_dec, ins_eta, List.length_append, *] | simp (disch := omega) only [if_pos, if_neg] | refine R.seq ?_ | refine LCB.text ?_ | refine LCB.quiet rfl ?_ | refine R.calls rfl ?_ | refine R.block ?_ | refine LCB.skip ?_ | refine LCB.exit ?_ | refine LCB.ret ?_ | ((first | refine RetOk.val hcl ?_ | refine Weak.at hcl ?_); simp only [seval, evw, List.forall_mem_cons, List.forall_mem_map, List.forall_mem_append, List.not_mem_nil, encB_def, sb, insA, encIns, ins_dec, ins_eta, List.length_append, *]) | ((first | refine LCB.cond (by simp only [seval, evo] <;> rfl) ?_ ?_ | refine wpG_split (by simp only [seval, evo] <;> rfl) ?_ ?_ | refine wqG_split (by simp only [seval, evo] <;> rfl) ?_ ?_) <;> (intro hc; try simp only [seval, nf] at hc)) | refine ACalls.inst ?_ | refine CallP.inst rfl ?_)
  refine R.loop (S := Nat) ⟨fun i => [(0, .list (f.map encIns)), (4, .int .i64 (i : Int))], fun i => H ++ [], fun i => i ≤ f.length ∧ badAt (f.length : Int) i (f.drop i) = badAt (f.length : Int) 0 f, fun i => f.length - i⟩ 0 ⟨Nat.zero_le _, rfl⟩ (Weak.at hcl ?_) ?_
  · simp only [seval, evw, List.forall_mem_cons, List.forall_mem_map, List.forall_mem_append, List.not_mem_nil, encB_def, sb, insA, encIns, ins_dec, ins_eta, List.length_append, *]
  rintro i ⟨hi, hq⟩
  simp only at hi hq ⊢
  by_cases hlt : i < f.length
  · have hg := getD_encIns hlt
    rw [drop_ins hlt, badAt] at hq
    have e3 : (i : Int) < (f.length : Int) := by omega
    have e4 : IntKind.i64.wrap ((i : Int) + 1) = ((i + 1 : Nat) : Int) := by rw [IntKind.wrap_i64]; omega
    have hc1 := ref03_Check_ok (f.getD i noIns) (f.length : Int)
    generalize f.getD i noIns = x at *
    rw [insA_eq] at hc1
    replace hc1 := Hold.mk hc1
    by_cases hk : chk x (f.length : Int) = 0
    · rw [if_pos hk] at hq
      replace hq := Hold.mk hq
      repeat' (first | simp only [seval, evo, beq_self_eq_true, encB_def, sb, insA, encIns, ins_dec, ins_eta, List.length_append, *] | simp (disch := omega) only [if_pos, if_neg] | refine R.seq ?_ | refine LCB.text ?_ | refine LCB.quiet rfl ?_ | refine R.calls rfl ?_ | refine R.block ?_ | refine LCB.skip ?_ | refine LCB.exit ?_ | refine LCB.ret ?_ | ((first | refine RetOk.val hcl ?_ | refine Weak.at hcl ?_); simp only [seval, evw, List.forall_mem_cons, List.forall_mem_map, List.forall_mem_append, List.not_mem_nil, encB_def, sb, insA, encIns, ins_dec, ins_eta, List.length_append, *]) | ((first | refine LCB.cond (by simp only [seval, evo] <;> rfl) ?_ ?_ | refine wpG_split (by simp only [seval, evo] <;> rfl) ?_ ?_ | refine wqG_split (by simp only [seval, evo] <;> rfl) ?_ ?_) <;> (intro hc; try simp only [seval, nf] at hc)) | refine ACalls.inst ?_ | refine CallP.inst rfl ?_)
      first | refine ACalls.pure (hc1.of) ?_ | refine CallP.pure (hc1.of) rfl ?_ | refine CallX.pure (hc1.of) ?_
      repeat' (first | simp only [seval, evo, beq_self_eq_true, encB_def, sb, insA, encIns, ins_dec, ins_eta, List.length_append, *] | simp (disch := omega) only [if_pos, if_neg] | refine R.seq ?_ | refine LCB.text ?_ | refine LCB.quiet rfl ?_ | refine R.calls rfl ?_ | refine R.block ?_ | refine LCB.skip ?_ | refine LCB.exit ?_ | refine LCB.ret ?_ | ((first | refine RetOk.val hcl ?_ | refine Weak.at hcl ?_); simp only [seval, evw, List.forall_mem_cons, List.forall_mem_map, List.forall_mem_append, List.not_mem_nil, encB_def, sb, insA, encIns, ins_dec, ins_eta, List.length_append, *]) | ((first | refine LCB.cond (by simp only [seval, evo] <;> rfl) ?_ ?_ | refine wpG_split (by simp only [seval, evo] <;> rfl) ?_ ?_ | refine wqG_split (by simp only [seval, evo] <;> rfl) ?_ ?_) <;> (intro hc; try simp only [seval, nf] at hc)) | refine ACalls.inst ?_ | refine CallP.inst rfl ?_)
      refine ⟨i + 1, ⟨hlt, hq.of⟩, by simp only; omega, Weak.at hcl ?_⟩
      simp only [seval, evw, List.forall_mem_cons, List.forall_mem_map, List.forall_mem_append, List.not_mem_nil, encB_def, sb, insA, encIns, ins_dec, ins_eta, List.length_append, *]
    · rw [if_neg hk] at hq
      have hr := fnChkA_eq (hbad.of _ _ hq.symm)
      replace hq := Hold.mk hq
      repeat' (first | simp only [seval, evo, beq_self_eq_true, encB_def, sb, insA, encIns, ins_dec, ins_eta, List.length_append, *] | simp (disch := omega) only [if_pos, if_neg] | refine R.seq ?_ | refine LCB.text ?_ | refine LCB.quiet rfl ?_ | refine R.calls rfl ?_ | refine R.block ?_ | refine LCB.skip ?_ | refine LCB.exit ?_ | refine LCB.ret ?_ | ((first | refine RetOk.val hcl ?_ | refine Weak.at hcl ?_); simp only [seval, evw, List.forall_mem_cons, List.forall_mem_map, List.forall_mem_append, List.not_mem_nil, encB_def, sb, insA, encIns, ins_dec, ins_eta, List.length_append, *]) | ((first | refine LCB.cond (by simp only [seval, evo] <;> rfl) ?_ ?_ | refine wpG_split (by simp only [seval, evo] <;> rfl) ?_ ?_ | refine wqG_split (by simp only [seval, evo] <;> rfl) ?_ ?_) <;> (intro hc; try simp only [seval, nf] at hc)) | refine ACalls.inst ?_ | refine CallP.inst rfl ?_)
      first | refine ACalls.pure (hc1.of) ?_ | refine CallP.pure (hc1.of) rfl ?_ | refine CallX.pure (hc1.of) ?_
      repeat' (first | simp only [seval, evo, beq_self_eq_true, encB_def, sb, insA, encIns, ins_dec, ins_eta, List.length_append, *] | simp (disch := omega) only [if_pos, if_neg] | refine R.seq ?_ | refine LCB.text ?_ | refine LCB.quiet rfl ?_ | refine R.calls rfl ?_ | refine R.block ?_ | refine LCB.skip ?_ | refine LCB.exit ?_ | refine LCB.ret ?_ | ((first | refine RetOk.val hcl ?_ | refine Weak.at hcl ?_); simp only [seval, evw, List.forall_mem_cons, List.forall_mem_map, List.forall_mem_append, List.not_mem_nil, encB_def, sb, insA, encIns, ins_dec, ins_eta, List.length_append, *]) | ((first | refine LCB.cond (by simp only [seval, evo] <;> rfl) ?_ ?_ | refine wpG_split (by simp only [seval, evo] <;> rfl) ?_ ?_ | refine wqG_split (by simp only [seval, evo] <;> rfl) ?_ ?_) <;> (intro hc; try simp only [seval, nf] at hc)) | refine ACalls.inst ?_ | refine CallP.inst rfl ?_)
  · have hie : i = f.length := by omega
    subst hie
    rw [List.drop_length, badAt] at hq
    have hlast := hgood.of hq.symm
    clear hq
    have e3 : ¬ (f.length : Int) < (f.length : Int) := by omega
    have e5 : IntKind.i64.wrap ((f.length : Int) - 1) = ((f.length - 1 : Nat) : Int) := by rw [IntKind.wrap_i64]; omega
    have hg := getD_encIns (l := f) (j := f.length - 1) (by omega)
    have e6 : ((f.length - 1 : Nat) : Int) < (f.length : Int) := by omega
    have e7 : f.length - 1 < f.length := by omega
    unfold lastOp at hlast
    generalize f.getD (f.length - 1) noIns = x at *
    by_cases o1 : x.op = 16
    · rw [if_pos (.inl o1)] at hlast
      have hr := fnChkA_eq hlast
      replace hlast := Hold.mk hlast
      repeat' (first | simp only [seval, evo, beq_self_eq_true, encB_def, sb, insA, encIns, ins_dec, ins_eta, List.length_append, *] | simp (disch := omega) only [if_pos, if_neg] | refine R.seq ?_ | refine LCB.text ?_ | refine LCB.quiet rfl ?_ | refine R.calls rfl ?_ | refine R.block ?_ | refine LCB.skip ?_ | refine LCB.exit ?_ | refine LCB.ret ?_ | ((first | refine RetOk.val hcl ?_ | refine Weak.at hcl ?_); simp only [seval, evw, List.forall_mem_cons, List.forall_mem_map, List.forall_mem_append, List.not_mem_nil, encB_def, sb, insA, encIns, ins_dec, ins_eta, List.length_append, *]) | ((first | refine LCB.cond (by simp only [seval, evo] <;> rfl) ?_ ?_ | refine wpG_split (by simp only [seval, evo] <;> rfl) ?_ ?_ | refine wqG_split (by simp only [seval, evo] <;> rfl) ?_ ?_) <;> (intro hc; try simp only [seval, nf] at hc)) | refine ACalls.inst ?_ | refine CallP.inst rfl ?_)
    · by_cases o2 : x.op = 18
      · rw [if_pos (.inr o2)] at hlast
        have hr := fnChkA_eq hlast
        replace hlast := Hold.mk hlast
        repeat' (first | simp only [seval, evo, beq_self_eq_true, encB_def, sb, insA, encIns, ins_dec, ins_eta, List.length_append, *] | simp (disch := omega) only [if_pos, if_neg] | refine R.seq ?_ | refine LCB.text ?_ | refine LCB.quiet rfl ?_ | refine R.calls rfl ?_ | refine R.block ?_ | refine LCB.skip ?_ | refine LCB.exit ?_ | refine LCB.ret ?_ | ((first | refine RetOk.val hcl ?_ | refine Weak.at hcl ?_); simp only [seval, evw, List.forall_mem_cons, List.forall_mem_map, List.forall_mem_append, List.not_mem_nil, encB_def, sb, insA, encIns, ins_dec, ins_eta, List.length_append, *]) | ((first | refine LCB.cond (by simp only [seval, evo] <;> rfl) ?_ ?_ | refine wpG_split (by simp only [seval, evo] <;> rfl) ?_ ?_ | refine wqG_split (by simp only [seval, evo] <;> rfl) ?_ ?_) <;> (intro hc; try simp only [seval, nf] at hc)) | refine ACalls.inst ?_ | refine CallP.inst rfl ?_)
      · rw [if_neg (by simp [o1, o2])] at hlast
        have hr := fnChkA_eq hlast
        replace hlast := Hold.mk hlast
        repeat' (first | simp only [seval, evo, beq_self_eq_true, encB_def, sb, insA, encIns, ins_dec, ins_eta, List.length_append, *] | simp (disch := omega) only [if_pos, if_neg] | refine R.seq ?_ | refine LCB.text ?_ | refine LCB.quiet rfl ?_ | refine R.calls rfl ?_ | refine R.block ?_ | refine LCB.skip ?_ | refine LCB.exit ?_ | refine LCB.ret ?_ | ((first | refine RetOk.val hcl ?_ | refine Weak.at hcl ?_); simp only [seval, evw, List.forall_mem_cons, List.forall_mem_map, List.forall_mem_append, List.not_mem_nil, encB_def, sb, insA, encIns, ins_dec, ins_eta, List.length_append, *]) | ((first | refine LCB.cond (by simp only [seval, evo] <;> rfl) ?_ ?_ | refine wpG_split (by simp only [seval, evo] <;> rfl) ?_ ?_ | refine wqG_split (by simp only [seval, evo] <;> rfl) ?_ ?_) <;> (intro hc; try simp only [seval, nf] at hc)) | refine ACalls.inst ?_ | refine CallP.inst rfl ?_)

def fnOk (f : List Ins) : Bool := decide ((fnChk f).2 = 0)
theorem asm_Right_ok (f : List Ins) : Pure Tryd.prog 44 [encFn f] (.bool (fnOk f)) := by
  intro H
  refine ACalls.go asm_Right.low (by simp) fun hcl => ?_
  have h1 := asm_Check_ok f
  unfold encFn fnChkA at *
  unfold fnOk
  replace h1 := Hold.mk h1
  repeat' (first | simp only [seval, evo, beq_self_eq_true, encB_def, sb, insA, encIns, ins_dec, ins_eta, List.length_append, *] | simp (disch := omega) only [if_pos, if_neg] | refine R.seq ?_ | refine LCB.text ?_ | refine LCB.quiet rfl ?_ | refine R.calls rfl ?_ | refine R.block ?_ | refine LCB.skip ?_ | refine LCB.exit ?_ | refine LCB.ret ?_ | ((first | refine RetOk.val hcl ?_ | refine Weak.at hcl ?_); simp only [seval, evw, List.forall_mem_cons, List.forall_mem_map, List.forall_mem_append, List.not_mem_nil, encB_def, sb, insA, encIns, ins_dec, ins_eta, List.length_append, *]) | ((first | refine LCB.cond (by simp only [seval, evo] <;> rfl) ?_ ?_ | refine wpG_split (by simp only [seval, evo] <;> rfl) ?_ ?_ | refine wqG_split (by simp only [seval, evo] <;> rfl) ?_ ?_) <;> (intro hc; try simp only [seval, nf] at hc)) | refine ACalls.inst ?_ | refine CallP.inst rfl ?_)
  first | refine ACalls.pure (h1.of) ?_ | refine CallP.pure (h1.of) rfl ?_ | refine CallX.pure (h1.of) ?_
  repeat' (first | simp only [seval, evo, beq_self_eq_true, encB_def, sb, insA, encIns, ins_dec, ins_eta, List.length_append, *] | simp (disch := omega) only [if_pos, if_neg] | refine R.seq ?_ | refine LCB.text ?_ | refine LCB.quiet rfl ?_ | refine R.calls rfl ?_ | refine R.block ?_ | refine LCB.skip ?_ | refine LCB.exit ?_ | refine LCB.ret ?_ | ((first | refine RetOk.val hcl ?_ | refine Weak.at hcl ?_); simp only [seval, evw, List.forall_mem_cons, List.forall_mem_map, List.forall_mem_append, List.not_mem_nil, encB_def, sb, insA, encIns, ins_dec, ins_eta, List.length_append, *]) | ((first | refine LCB.cond (by simp only [seval, evo] <;> rfl) ?_ ?_ | refine wpG_split (by simp only [seval, evo] <;> rfl) ?_ ?_ | refine wqG_split (by simp only [seval, evo] <;> rfl) ?_ ?_) <;> (intro hc; try simp only [seval, nf] at hc)) | refine ACalls.inst ?_ | refine CallP.inst rfl ?_)
theorem ref04_Right_ok (f : List Ins) : Pure Tryd.prog 39 [encFn f] (.bool (fnOk f)) := by
  intro H
  refine ACalls.go joineryref04_Right.low (by simp) fun hcl => ?_
  have h1 := ref04_Check_ok f
  unfold encFn fnChkA at *
  unfold fnOk
  replace h1 := Hold.mk h1
  repeat' (first | simp only [seval, evo, beq_self_eq_true, encB_def, sb, insA, encIns, ins_dec, ins_eta, List.length_append, *] | simp (disch := omega) only [if_pos, if_neg] | refine R.seq ?_ | refine LCB.text ?_ | refine LCB.quiet rfl ?_ | refine R.calls rfl ?_ | refine R.block ?_ | refine LCB.skip ?_ | refine LCB.exit ?_ | refine LCB.ret ?_ | ((first | refine RetOk.val hcl ?_ | refine Weak.at hcl ?_); simp only [seval, evw, List.forall_mem_cons, List.forall_mem_map, List.forall_mem_append, List.not_mem_nil, encB_def, sb, insA, encIns, ins_dec, ins_eta, List.length_append, *]) | ((first | refine LCB.cond (by simp only [seval, evo] <;> rfl) ?_ ?_ | refine wpG_split (by simp only [seval, evo] <;> rfl) ?_ ?_ | refine wqG_split (by simp only [seval, evo] <;> rfl) ?_ ?_) <;> (intro hc; try simp only [seval, nf] at hc)) | refine ACalls.inst ?_ | refine CallP.inst rfl ?_)
  first | refine ACalls.pure (h1.of) ?_ | refine CallP.pure (h1.of) rfl ?_ | refine CallX.pure (h1.of) ?_
  repeat' (first | simp only [seval, evo, beq_self_eq_true, encB_def, sb, insA, encIns, ins_dec, ins_eta, List.length_append, *] | simp (disch := omega) only [if_pos, if_neg] | refine R.seq ?_ | refine LCB.text ?_ | refine LCB.quiet rfl ?_ | refine R.calls rfl ?_ | refine R.block ?_ | refine LCB.skip ?_ | refine LCB.exit ?_ | refine LCB.ret ?_ | ((first | refine RetOk.val hcl ?_ | refine Weak.at hcl ?_); simp only [seval, evw, List.forall_mem_cons, List.forall_mem_map, List.forall_mem_append, List.not_mem_nil, encB_def, sb, insA, encIns, ins_dec, ins_eta, List.length_append, *]) | ((first | refine LCB.cond (by simp only [seval, evo] <;> rfl) ?_ ?_ | refine wpG_split (by simp only [seval, evo] <;> rfl) ?_ ?_ | refine wqG_split (by simp only [seval, evo] <;> rfl) ?_ ?_) <;> (intro hc; try simp only [seval, nf] at hc)) | refine ACalls.inst ?_ | refine CallP.inst rfl ?_)
end Go.Proofs.YtbkbehkjndmabaaDoor
/-
  asm: a function's text.
-/
namespace Go.Proofs.YtbkbehkjndmabaaDoor
open Go.RowKit
set_option linter.unusedVariables false
set_option linter.unusedSimpArgs false

theorem chk_more {x : Ins} {n m : Int} (h : n ≤ m) (h0 : chk x n = 0) : chk x m = 0 := by
  rw [chk_same] at *
  unfold chkR farOff at *
  revert h0
  cases badFormR x <;> cases badPlaceR x <;> simp <;> omega
theorem badAt_none {n : Int} : ∀ (f : List Ins) (i : Nat), badAt n i f = none → ∀ x ∈ f, chk x n = 0
  | [], _, _ => by simp
  | y :: r, i, h => by
    intro x hx
    rw [badAt] at h
    by_cases hk : chk y n = 0
    · rw [if_pos hk] at h
      rcases List.mem_cons.1 hx with rfl | hx
      · exact hk
      · exact badAt_none r (i + 1) h x hx
    · rw [if_neg hk] at h
      simp at h
theorem badAt_some {n : Int} : ∀ (f : List Ins) (i j : Nat) (e : Int), badAt n i f = some (j, e) → e ≠ 0 ∧ i ≤ j ∧ j < i + f.length
  | [], _, _, _, h => by simp [badAt] at h
  | y :: r, i, j, e, h => by
    rw [badAt] at h
    by_cases hk : chk y n = 0
    · rw [if_pos hk] at h
      obtain ⟨h1, h2, h3⟩ := badAt_some r (i + 1) j e h
      exact ⟨h1, by omega, by simp; omega⟩
    · rw [if_neg hk] at h
      simp only [Option.some.injEq, Prod.mk.injEq] at h
      obtain ⟨rfl, rfl⟩ := h
      exact ⟨hk, Nat.le_refl _, by simp⟩
/-- What a function that is right is. -/
theorem fnOk_iff {f : List Ins} : fnOk f = true ↔ f.length ≤ 200 ∧ 0 < f.length ∧ (∀ x ∈ f, chk x (f.length : Int) = 0) ∧ (lastOp f = 16 ∨ lastOp f = 18) := by
  unfold fnOk
  rw [decide_eq_true_eq]
  by_cases h1 : 200 < f.length
  · rw [fnChk_full h1]
    simp
    omega
  · by_cases h2 : f.length = 0
    · rw [fnChk_nil h2]
      simp
      omega
    · cases hb : badAt (f.length : Int) 0 f with
      | some q =>
        obtain ⟨i, e⟩ := q
        rw [fnChk_bad h1 h2 hb]
        have he := (badAt_some _ _ _ _ hb).1
        constructor
        · intro h; exact absurd h he
        · rintro ⟨_, _, h, _⟩
          exfalso
          have : ∀ (g : List Ins) (i : Nat), (∀ x ∈ g, chk x (f.length : Int) = 0) → badAt (f.length : Int) i g = none := by
            intro g
            induction g with
            | nil => intro i _; rfl
            | cons y r ih => intro i hh; rw [badAt, if_pos (hh y (by simp))]; exact ih _ fun x hx => hh x (by simp [hx])
          rw [this f 0 h] at hb
          simp at hb
      | none =>
        rw [fnChk_good h1 h2 hb]
        have := badAt_none _ _ hb
        by_cases hl : lastOp f = 16 ∨ lastOp f = 18
        · rw [if_pos hl]
          simp only [true_iff]
          exact ⟨by omega, by omega, this, hl⟩
        · rw [if_neg hl]
          constructor
          · intro h; simp at h
          · rintro ⟨_, _, _, h⟩; exact absurd h hl

def lineT (x : Ins) : List UInt8 := insText x ++ [10]
def fnText (f : List Ins) : List UInt8 := f.flatMap lineT
def fnP (f : List Ins) : AV := if fnOk f then .tup [.str (bs (fnText f)), .int .i64 0] else .tup [.str (bs []), .int .i64 1]
theorem insText_len (x : Ins) : (insText x).length ≤ 80 := by
  have h1 := fieldsT_len x (fieldL x.op)
  obtain ⟨s1, s2, _⟩ := shape_short x.op
  unfold insText
  rw [List.length_append]
  omega

end Go.Proofs.YtbkbehkjndmabaaDoor

/-
  step: words, states, events, outcomes; whether a state is right.
-/
namespace Go.Proofs.YtbkbehkjndmabaaDoor
open Go.RowKit
set_option linter.unusedVariables false
set_option linter.unusedSimpArgs false
structure W where
  is : Bool
  v : Int
deriving DecidableEq
def noW : W := ⟨false, 0⟩
def encW (w : W) : List AV := [.bool w.is, .int .i64 w.v]
theorem encW_def {w : W} : encW w = [.bool w.is, .int .i64 w.v] := rfl
def wc (L : List W) : List AV := L.flatMap encW
theorem wc_cons {w : W} {L : List W} : wc (w :: L) = .bool w.is :: .int .i64 w.v :: wc L := rfl
theorem wc_len : ∀ (L : List W), (wc L).length = 2 * L.length
  | [] => rfl
  | w :: L => by rw [wc_cons]; simp [wc_len L]; omega
theorem wc_pair : ∀ (L : List W) (i : Nat), i < L.length → ((wc L).drop (i * 2)).take 2 = encW (L.getD i noW)
  | [], i, h => by simp at h
  | w :: L, 0, h => rfl
  | w :: L, i + 1, h => by
    have e : (i + 1) * 2 = i * 2 + 1 + 1 := by omega
    rw [wc_cons, e, List.drop_succ_cons, List.drop_succ_cons, wc_pair L i (by simpa using h)]
    rfl
theorem wc_is : ∀ (L : List W) (i : Nat), i < L.length → (wc L)[i * 2]? = some (.bool (L.getD i noW).is)
  | [], i, h => by simp at h
  | w :: L, 0, h => rfl
  | w :: L, i + 1, h => by
    have e : (i + 1) * 2 = i * 2 + 1 + 1 := by omega
    rw [wc_cons, e, List.getElem?_cons_succ, List.getElem?_cons_succ, wc_is L i (by simpa using h)]
    rfl
theorem wc_v : ∀ (L : List W) (i : Nat), i < L.length → (wc L)[i * 2 + 1]? = some (.int .i64 (L.getD i noW).v)
  | [], i, h => by simp at h
  | w :: L, 0, h => rfl
  | w :: L, i + 1, h => by
    have e : (i + 1) * 2 + 1 = (i * 2 + 1) + 1 + 1 := by omega
    rw [wc_cons, e, List.getElem?_cons_succ, List.getElem?_cons_succ, wc_v L i (by simpa using h)]
    rfl
theorem wc_put : ∀ (L : List W) (i : Nat) (w : W), i < L.length → (wc L).take (i * 2) ++ .bool w.is :: .int .i64 w.v :: (wc L).drop (i * 2 + 2) = wc (L.set i w)
  | [], i, _, h => by simp at h
  | u :: L, 0, w, h => rfl
  | u :: L, i + 1, w, h => by
    have e : (i + 1) * 2 = i * 2 + 1 + 1 := by omega
    have e2 : (i + 1) * 2 + 2 = (i * 2 + 2) + 1 + 1 := by omega
    rw [wc_cons, e2, e, List.take_succ_cons, List.take_succ_cons, List.drop_succ_cons, List.drop_succ_cons, List.set_cons_succ, wc_cons, ← wc_put L i w (by simpa using h)]
    rfl
section
variable {L : List W} {r : List AV} {i : Nat}
theorem wr_pair (h : i < L.length) : ((wc L ++ r).drop (i * 2)).take 2 = encW (L.getD i noW) := by
  have hl := wc_len L
  rw [List.drop_append_of_le_length (by omega), List.take_append_of_le_length (by rw [List.length_drop]; omega), wc_pair L i h]
theorem wr_is (h : i < L.length) : (wc L ++ r)[i * 2]? = some (.bool (L.getD i noW).is) := by
  have hl := wc_len L
  rw [List.getElem?_append_left (by omega), wc_is L i h]
theorem wr_v (h : i < L.length) : (wc L ++ r)[i * 2 + 1]? = some (.int .i64 (L.getD i noW).v) := by
  have hl := wc_len L
  rw [List.getElem?_append_left (by omega), wc_v L i h]
theorem wr_put (w : W) (h : i < L.length) : (wc L ++ r).take (i * 2) ++ .bool w.is :: .int .i64 w.v :: (wc L ++ r).drop (i * 2 + 2) = wc (L.set i w) ++ r := by
  have hl := wc_len L
  rw [List.take_append_of_le_length (by omega), List.drop_append_of_le_length (by omega), ← wc_put L i w h]
  simp
theorem wr_put2 (w : W) (h : i < L.length) : (wc L ++ r).take (i * 2) ++ [.bool w.is, .int .i64 w.v] ++ (wc L ++ r).drop (i * 2 + 2) = wc (L.set i w) ++ r := by
  rw [← wr_put w h]; simp
end
theorem wc_clean (m : Nat) : ∀ L : List W, cleanAll m (wc L) = true
  | [] => rfl
  | w :: L => by rw [wc_cons, cleanAll, cleanAll, wc_clean m L]; rfl
theorem cleanAll_app {m : Nat} : ∀ {a b : List AV}, cleanAll m (a ++ b) = (cleanAll m a && cleanAll m b)
  | [], b => by simp [cleanAll]
  | x :: a, b => by rw [List.cons_append, cleanAll, cleanAll, cleanAll_app, Bool.and_assoc]
theorem cl_wc {m : Nat} {L : List W} {r : List AV} : cleanAll m (wc L ++ r) = cleanAll m r := by rw [cleanAll_app, wc_clean, Bool.true_and]
theorem cl_wc0 {m : Nat} {L : List W} : cleanAll m (wc L) = true := wc_clean m L
theorem ac_wc : ∀ L : List W, allCells (wc L) = true
  | [] => rfl
  | w :: L => by
    have := ac_wc L
    rw [wc_cons]
    unfold allCells at *
    rw [List.all_cons, List.all_cons, this]
    rfl
theorem ac_app {a b : List AV} : allCells (a ++ b) = (allCells a && allCells b) := by unfold allCells; rw [List.all_append]
theorem ac_wcr {L : List W} {r : List AV} : allCells (wc L ++ r) = allCells r := by rw [ac_app, ac_wc, Bool.true_and]
theorem ac_wc0 {L : List W} : allCells (wc L) = true := ac_wc L
theorem Views.pre {H : List AObj} {m : Nat} {x y : List AV} : ∀ {a : List AV}, cleanAll m a = true → Views H m x y → Views H m (a ++ x) (a ++ y)
  | [], _, h => h
  | b :: a, hc, h => by
    simp only [cleanAll, Bool.and_eq_true] at hc
    exact .cons b b _ _ (.same b hc.1) (Views.pre hc.2 h)
theorem Views.post {H : List AObj} {m : Nat} {x y : List AV} : ∀ {a : List AV}, Views H m (a ++ x) (a ++ y) → Views H m x y
  | [], h => h
  | b :: a, h => by
    cases h with
    | cons _ _ _ _ h1 h2 => exact Views.post h2
theorem vws_wc {H : List AObj} {m : Nat} {L : List W} {x y : List AV} : Views H m (wc L ++ x) (wc L ++ y) = Views H m x y := propext ⟨Views.post, Views.pre (wc_clean m L)⟩
theorem vws_wc0 {H : List AObj} {m : Nat} {L : List W} : Views H m (wc L) (wc L) = True := vws_same (wc_clean m L)
theorem Loses.pre {H G : List AObj} {x y : List AV} : ∀ {a : List AV}, Loses H G x y → Loses H G (a ++ x) (a ++ y)
  | [], h => h
  | b :: a, h => .cons b b _ _ (.same b) (Loses.pre h)
theorem Loses.post {H G : List AObj} {x y : List AV} : ∀ {a : List AV}, Loses H G (a ++ x) (a ++ y) → Loses H G x y
  | [], h => h
  | b :: a, h => by
    cases h with
    | cons _ _ _ _ h1 h2 => exact Loses.post h2
theorem lss_wc {H G : List AObj} {L : List W} {x y : List AV} : Loses H G (wc L ++ x) (wc L ++ y) = Loses H G x y := propext ⟨Loses.post, Loses.pre⟩
theorem tk_hi {L : List W} {b : List AV} {n : Nat} (h : (wc L).length ≤ n) : (wc L ++ b).take n = wc L ++ b.take (n - (wc L).length) := by rw [List.take_append, List.take_of_length_le h]
theorem dr_hi {L : List W} {b : List AV} {n : Nat} (h : (wc L).length ≤ n) : (wc L ++ b).drop n = b.drop (n - (wc L).length) := by rw [List.drop_append, List.drop_of_length_le h, List.nil_append]
theorem gt_hi {L : List W} {b : List AV} {n : Nat} (h : (wc L).length ≤ n) : (wc L ++ b)[n]? = b[n - (wc L).length]? := List.getElem?_append_right h
theorem ln_app {L : List W} {b : List AV} : (wc L ++ b).length = (wc L).length + b.length := List.length_append
theorem wc_nil {L : List W} : wc L ++ [] = wc L := List.append_nil _
theorem wc_app {L : List W} {a b : List AV} : (wc L ++ a) ++ b = wc L ++ (a ++ b) := List.append_assoc _ _ _
theorem ew : type_of% (And.intro @wc_nil (And.intro @wc_app (And.intro @cl_wc (And.intro @cl_wc0 (And.intro @ac_wcr (And.intro @ac_wc0 (And.intro @vws_wc (And.intro @vws_wc0 (And.intro @lss_wc (And.intro @tk_hi (And.intro @dr_hi (And.intro @gt_hi (And.intro @ln_app (And.intro @encW_def (@encI_def))))))))))))))) :=
  And.intro @wc_nil (And.intro @wc_app (And.intro @cl_wc (And.intro @cl_wc0 (And.intro @ac_wcr (And.intro @ac_wc0 (And.intro @vws_wc (And.intro @vws_wc0 (And.intro @lss_wc (And.intro @tk_hi (And.intro @dr_hi (And.intro @gt_hi (And.intro @ln_app (And.intro @encW_def (@encI_def))))))))))))))

/-- A state. -/
structure St where
  L : List W
  heap : List Int
  pc : Int
  asked : Int
deriving DecidableEq
def stCells (s : St) : List AV := wc s.L ++ [ints s.heap, .int .i64 s.pc, .int .i64 s.asked]
def stA (s : St) : AV := .agg (stCells s)
theorem stA_eq (s : St) : stA s = .agg (wc s.L ++ [.list (s.heap.map encI), .int .i64 s.pc, .int .i64 s.asked]) := rfl
/-- The document's. -/
def rsA (s : St) : AV := .agg [.list (s.L.map encW), ints s.heap, .int .i64 s.pc, .int .i64 s.asked]
theorem rsA_eq (s : St) : rsA s = .agg [.list (s.L.map encW), .list (s.heap.map encI), .int .i64 s.pc, .int .i64 s.asked] := rfl
structure Ev where
  n : Int
  arg : Int
  ans : Int
deriving DecidableEq
def encEv (e : Ev) : List AV := [.int .i64 e.n, .int .i64 e.arg, .int .i64 e.ans]
theorem encEv_def {e : Ev} : encEv e = [.int .i64 e.n, .int .i64 e.arg, .int .i64 e.ans] := rfl
def evs (l : List Ev) : AV := .list (l.map encEv)
theorem evs_eq (l : List Ev) : evs l = .list (l.map encEv) := rfl
structure Out where
  how : Int
  value : Int
  heap : List Int
deriving DecidableEq
def outA (o : Out) : AV := .agg [.int .i64 o.how, .int .i64 o.value, ints o.heap]
theorem outA_eq (o : Out) : outA o = .agg [.int .i64 o.how, .int .i64 o.value, .list (o.heap.map encI)] := rfl
def okW (w : W) : Bool := w.is || decide (w.v = 0)
def stRight (f : List Ins) (s : St) : Bool := fnOk f && (decide (0 ≤ s.pc) && (decide (s.pc < (f.length : Int)) && (decide (s.heap.length ≤ 16) && (decide (0 ≤ s.asked) && s.L.all okW))))
theorem getD_encW {l : List W} {j : Nat} (h : j < l.length) : (l.map encW).getD j [] = [.bool (l.getD j noW).is, .int .i64 (l.getD j noW).v] := by
  simp [List.getD, h, encW]
theorem drop_W {l : List W} {j : Nat} (h : j < l.length) : l.drop j = l.getD j noW :: l.drop (j + 1) := by
  rw [List.drop_eq_getElem_cons h]
  simp [List.getD, h]
set_option maxHeartbeats 2000000 in
theorem step_Right_ok (f : List Ins) (s : St) (hL : s.L.length = 24) : Pure Tryd.prog 20 [encFn f, stA s] (.bool (stRight f s)) := by
  intro H
  refine ACalls.go step_Right.low (by simp) fun hcl => ?_
  have hwl : (wc s.L).length = 48 := by rw [wc_len, hL]
  rw [stA_eq]
  have h1 := Hold.mk (asm_Right_ok f)
  have hr : stRight f s = (fnOk f && (decide (0 ≤ s.pc) && (decide (s.pc < (f.length : Int)) && (decide (s.heap.length ≤ 16) && (decide (0 ≤ s.asked) && s.L.all okW))))) := rfl
  rw [hr]
  clear hr
  generalize fnOk f = b1 at *
  unfold encFn at *
  cases b1
  · repeat' (first | simp only [seval, evx, beq_self_eq_true, sb, ew, insA, encIns, ins_dec, ins_eta, *] | simp (disch := omega) only [if_pos, if_neg] | refine R.seq ?_ | refine LCB.text ?_ | refine LCB.quiet rfl ?_ | refine R.anyX ?_ | refine R.block ?_ | refine LCB.skip ?_ | refine LCB.exit ?_ | refine LCB.ret ?_ | ((first | refine RetOk.val hcl ?_ | refine Weak.at hcl ?_); simp only [seval, evw, List.forall_mem_cons, List.forall_mem_map, List.forall_mem_append, List.not_mem_nil, sb, ew, insA, encIns, ins_dec, ins_eta, *]) | ((first | refine LCB.cond (by simp only [seval, evx] <;> rfl) ?_ ?_ | refine wpG_split (by simp only [seval, evx] <;> rfl) ?_ ?_ | refine wxG_split (by simp only [seval, evx] <;> rfl) ?_ ?_) <;> (intro hc; try simp only [seval, nf] at hc)) | refine ACalls.inst ?_ | refine CallX.inst ?_ | (with_reducible refine And.intro ?_ ?_) | exact True.intro)
    first | refine ACalls.pure (h1.of) ?_ | refine CallP.pure (h1.of) rfl ?_ | refine CallX.pure (h1.of) ?_
    repeat' (first | simp only [seval, evx, beq_self_eq_true, sb, ew, insA, encIns, ins_dec, ins_eta, *] | simp (disch := omega) only [if_pos, if_neg] | refine R.seq ?_ | refine LCB.text ?_ | refine LCB.quiet rfl ?_ | refine R.anyX ?_ | refine R.block ?_ | refine LCB.skip ?_ | refine LCB.exit ?_ | refine LCB.ret ?_ | ((first | refine RetOk.val hcl ?_ | refine Weak.at hcl ?_); simp only [seval, evw, List.forall_mem_cons, List.forall_mem_map, List.forall_mem_append, List.not_mem_nil, sb, ew, insA, encIns, ins_dec, ins_eta, *]) | ((first | refine LCB.cond (by simp only [seval, evx] <;> rfl) ?_ ?_ | refine wpG_split (by simp only [seval, evx] <;> rfl) ?_ ?_ | refine wxG_split (by simp only [seval, evx] <;> rfl) ?_ ?_) <;> (intro hc; try simp only [seval, nf] at hc)) | refine ACalls.inst ?_ | refine CallX.inst ?_ | (with_reducible refine And.intro ?_ ?_) | exact True.intro)
  by_cases k2 : s.pc < 0
  · have e2 : decide (0 ≤ s.pc) = false := decide_eq_false (by omega)
    repeat' (first | simp only [seval, evx, beq_self_eq_true, sb, ew, insA, encIns, ins_dec, ins_eta, *] | simp (disch := omega) only [if_pos, if_neg] | refine R.seq ?_ | refine LCB.text ?_ | refine LCB.quiet rfl ?_ | refine R.anyX ?_ | refine R.block ?_ | refine LCB.skip ?_ | refine LCB.exit ?_ | refine LCB.ret ?_ | ((first | refine RetOk.val hcl ?_ | refine Weak.at hcl ?_); simp only [seval, evw, List.forall_mem_cons, List.forall_mem_map, List.forall_mem_append, List.not_mem_nil, sb, ew, insA, encIns, ins_dec, ins_eta, *]) | ((first | refine LCB.cond (by simp only [seval, evx] <;> rfl) ?_ ?_ | refine wpG_split (by simp only [seval, evx] <;> rfl) ?_ ?_ | refine wxG_split (by simp only [seval, evx] <;> rfl) ?_ ?_) <;> (intro hc; try simp only [seval, nf] at hc)) | refine ACalls.inst ?_ | refine CallX.inst ?_ | (with_reducible refine And.intro ?_ ?_) | exact True.intro)
    first | refine ACalls.pure (h1.of) ?_ | refine CallP.pure (h1.of) rfl ?_ | refine CallX.pure (h1.of) ?_
    repeat' (first | simp only [seval, evx, beq_self_eq_true, sb, ew, insA, encIns, ins_dec, ins_eta, *] | simp (disch := omega) only [if_pos, if_neg] | refine R.seq ?_ | refine LCB.text ?_ | refine LCB.quiet rfl ?_ | refine R.anyX ?_ | refine R.block ?_ | refine LCB.skip ?_ | refine LCB.exit ?_ | refine LCB.ret ?_ | ((first | refine RetOk.val hcl ?_ | refine Weak.at hcl ?_); simp only [seval, evw, List.forall_mem_cons, List.forall_mem_map, List.forall_mem_append, List.not_mem_nil, sb, ew, insA, encIns, ins_dec, ins_eta, *]) | ((first | refine LCB.cond (by simp only [seval, evx] <;> rfl) ?_ ?_ | refine wpG_split (by simp only [seval, evx] <;> rfl) ?_ ?_ | refine wxG_split (by simp only [seval, evx] <;> rfl) ?_ ?_) <;> (intro hc; try simp only [seval, nf] at hc)) | refine ACalls.inst ?_ | refine CallX.inst ?_ | (with_reducible refine And.intro ?_ ?_) | exact True.intro)
  have e2 : decide (0 ≤ s.pc) = true := decide_eq_true (by omega)
  by_cases k3 : s.pc < (f.length : Int)
  case neg =>
    have e6 : (f.length : Int) ≤ s.pc := by omega
    repeat' (first | simp only [seval, evx, beq_self_eq_true, sb, ew, insA, encIns, ins_dec, ins_eta, *] | simp (disch := omega) only [if_pos, if_neg] | refine R.seq ?_ | refine LCB.text ?_ | refine LCB.quiet rfl ?_ | refine R.anyX ?_ | refine R.block ?_ | refine LCB.skip ?_ | refine LCB.exit ?_ | refine LCB.ret ?_ | ((first | refine RetOk.val hcl ?_ | refine Weak.at hcl ?_); simp only [seval, evw, List.forall_mem_cons, List.forall_mem_map, List.forall_mem_append, List.not_mem_nil, sb, ew, insA, encIns, ins_dec, ins_eta, *]) | ((first | refine LCB.cond (by simp only [seval, evx] <;> rfl) ?_ ?_ | refine wpG_split (by simp only [seval, evx] <;> rfl) ?_ ?_ | refine wxG_split (by simp only [seval, evx] <;> rfl) ?_ ?_) <;> (intro hc; try simp only [seval, nf] at hc)) | refine ACalls.inst ?_ | refine CallX.inst ?_ | (with_reducible refine And.intro ?_ ?_) | exact True.intro)
    first | refine ACalls.pure (h1.of) ?_ | refine CallP.pure (h1.of) rfl ?_ | refine CallX.pure (h1.of) ?_
    repeat' (first | simp only [seval, evx, beq_self_eq_true, sb, ew, insA, encIns, ins_dec, ins_eta, *] | simp (disch := omega) only [if_pos, if_neg] | refine R.seq ?_ | refine LCB.text ?_ | refine LCB.quiet rfl ?_ | refine R.anyX ?_ | refine R.block ?_ | refine LCB.skip ?_ | refine LCB.exit ?_ | refine LCB.ret ?_ | ((first | refine RetOk.val hcl ?_ | refine Weak.at hcl ?_); simp only [seval, evw, List.forall_mem_cons, List.forall_mem_map, List.forall_mem_append, List.not_mem_nil, sb, ew, insA, encIns, ins_dec, ins_eta, *]) | ((first | refine LCB.cond (by simp only [seval, evx] <;> rfl) ?_ ?_ | refine wpG_split (by simp only [seval, evx] <;> rfl) ?_ ?_ | refine wxG_split (by simp only [seval, evx] <;> rfl) ?_ ?_) <;> (intro hc; try simp only [seval, nf] at hc)) | refine ACalls.inst ?_ | refine CallX.inst ?_ | (with_reducible refine And.intro ?_ ?_) | exact True.intro)
  by_cases k4 : s.heap.length ≤ 16
  case neg =>
    repeat' (first | simp only [seval, evx, beq_self_eq_true, sb, ew, insA, encIns, ins_dec, ins_eta, *] | simp (disch := omega) only [if_pos, if_neg] | refine R.seq ?_ | refine LCB.text ?_ | refine LCB.quiet rfl ?_ | refine R.anyX ?_ | refine R.block ?_ | refine LCB.skip ?_ | refine LCB.exit ?_ | refine LCB.ret ?_ | ((first | refine RetOk.val hcl ?_ | refine Weak.at hcl ?_); simp only [seval, evw, List.forall_mem_cons, List.forall_mem_map, List.forall_mem_append, List.not_mem_nil, sb, ew, insA, encIns, ins_dec, ins_eta, *]) | ((first | refine LCB.cond (by simp only [seval, evx] <;> rfl) ?_ ?_ | refine wpG_split (by simp only [seval, evx] <;> rfl) ?_ ?_ | refine wxG_split (by simp only [seval, evx] <;> rfl) ?_ ?_) <;> (intro hc; try simp only [seval, nf] at hc)) | refine ACalls.inst ?_ | refine CallX.inst ?_ | (with_reducible refine And.intro ?_ ?_) | exact True.intro)
    first | refine ACalls.pure (h1.of) ?_ | refine CallP.pure (h1.of) rfl ?_ | refine CallX.pure (h1.of) ?_
    repeat' (first | simp only [seval, evx, beq_self_eq_true, sb, ew, insA, encIns, ins_dec, ins_eta, *] | simp (disch := omega) only [if_pos, if_neg] | refine R.seq ?_ | refine LCB.text ?_ | refine LCB.quiet rfl ?_ | refine R.anyX ?_ | refine R.block ?_ | refine LCB.skip ?_ | refine LCB.exit ?_ | refine LCB.ret ?_ | ((first | refine RetOk.val hcl ?_ | refine Weak.at hcl ?_); simp only [seval, evw, List.forall_mem_cons, List.forall_mem_map, List.forall_mem_append, List.not_mem_nil, sb, ew, insA, encIns, ins_dec, ins_eta, *]) | ((first | refine LCB.cond (by simp only [seval, evx] <;> rfl) ?_ ?_ | refine wpG_split (by simp only [seval, evx] <;> rfl) ?_ ?_ | refine wxG_split (by simp only [seval, evx] <;> rfl) ?_ ?_) <;> (intro hc; try simp only [seval, nf] at hc)) | refine ACalls.inst ?_ | refine CallX.inst ?_ | (with_reducible refine And.intro ?_ ?_) | exact True.intro)
  by_cases k5 : s.asked < 0
  · have e5 : decide (0 ≤ s.asked) = false := decide_eq_false (by omega)
    repeat' (first | simp only [seval, evx, beq_self_eq_true, sb, ew, insA, encIns, ins_dec, ins_eta, *] | simp (disch := omega) only [if_pos, if_neg] | refine R.seq ?_ | refine LCB.text ?_ | refine LCB.quiet rfl ?_ | refine R.anyX ?_ | refine R.block ?_ | refine LCB.skip ?_ | refine LCB.exit ?_ | refine LCB.ret ?_ | ((first | refine RetOk.val hcl ?_ | refine Weak.at hcl ?_); simp only [seval, evw, List.forall_mem_cons, List.forall_mem_map, List.forall_mem_append, List.not_mem_nil, sb, ew, insA, encIns, ins_dec, ins_eta, *]) | ((first | refine LCB.cond (by simp only [seval, evx] <;> rfl) ?_ ?_ | refine wpG_split (by simp only [seval, evx] <;> rfl) ?_ ?_ | refine wxG_split (by simp only [seval, evx] <;> rfl) ?_ ?_) <;> (intro hc; try simp only [seval, nf] at hc)) | refine ACalls.inst ?_ | refine CallX.inst ?_ | (with_reducible refine And.intro ?_ ?_) | exact True.intro)
    first | refine ACalls.pure (h1.of) ?_ | refine CallP.pure (h1.of) rfl ?_ | refine CallX.pure (h1.of) ?_
    repeat' (first | simp only [seval, evx, beq_self_eq_true, sb, ew, insA, encIns, ins_dec, ins_eta, *] | simp (disch := omega) only [if_pos, if_neg] | refine R.seq ?_ | refine LCB.text ?_ | refine LCB.quiet rfl ?_ | refine R.anyX ?_ | refine R.block ?_ | refine LCB.skip ?_ | refine LCB.exit ?_ | refine LCB.ret ?_ | ((first | refine RetOk.val hcl ?_ | refine Weak.at hcl ?_); simp only [seval, evw, List.forall_mem_cons, List.forall_mem_map, List.forall_mem_append, List.not_mem_nil, sb, ew, insA, encIns, ins_dec, ins_eta, *]) | ((first | refine LCB.cond (by simp only [seval, evx] <;> rfl) ?_ ?_ | refine wpG_split (by simp only [seval, evx] <;> rfl) ?_ ?_ | refine wxG_split (by simp only [seval, evx] <;> rfl) ?_ ?_) <;> (intro hc; try simp only [seval, nf] at hc)) | refine ACalls.inst ?_ | refine CallX.inst ?_ | (with_reducible refine And.intro ?_ ?_) | exact True.intro)
  have e5 : decide (0 ≤ s.asked) = true := decide_eq_true (by omega)
  have e6 : ¬ (f.length : Int) ≤ s.pc := by omega
  generalize hB : s.L.all okW = B
  replace hB := Hold.mk hB
  replace hL := Hold.mk hL
  repeat' (first | simp only [seval, evx, beq_self_eq_true, sb, ew, insA, encIns, ins_dec, ins_eta, *] | simp (disch := omega) only [if_pos, if_neg] | refine R.seq ?_ | refine LCB.text ?_ | refine LCB.quiet rfl ?_ | refine R.anyX ?_ | refine R.block ?_ | refine LCB.skip ?_ | refine LCB.exit ?_ | refine LCB.ret ?_ | ((first | refine RetOk.val hcl ?_ | refine Weak.at hcl ?_); simp only [seval, evw, List.forall_mem_cons, List.forall_mem_map, List.forall_mem_append, List.not_mem_nil, sb, ew, insA, encIns, ins_dec, ins_eta, *]) | ((first | refine LCB.cond (by simp only [seval, evx] <;> rfl) ?_ ?_ | refine wpG_split (by simp only [seval, evx] <;> rfl) ?_ ?_ | refine wxG_split (by simp only [seval, evx] <;> rfl) ?_ ?_) <;> (intro hc; try simp only [seval, nf] at hc)) | refine ACalls.inst ?_ | refine CallX.inst ?_ | (with_reducible refine And.intro ?_ ?_) | exact True.intro)
  first | refine ACalls.pure (h1.of) ?_ | refine CallP.pure (h1.of) rfl ?_ | refine CallX.pure (h1.of) ?_
  repeat' (first | simp only [seval, evx, beq_self_eq_true, sb, ew, insA, encIns, ins_dec, ins_eta, *] | simp (disch := omega) only [if_pos, if_neg] | refine R.seq ?_ | refine LCB.text ?_ | refine LCB.quiet rfl ?_ | refine R.anyX ?_ | refine R.block ?_ | refine LCB.skip ?_ | refine LCB.exit ?_ | refine LCB.ret ?_ | ((first | refine RetOk.val hcl ?_ | refine Weak.at hcl ?_); simp only [seval, evw, List.forall_mem_cons, List.forall_mem_map, List.forall_mem_append, List.not_mem_nil, sb, ew, insA, encIns, ins_dec, ins_eta, *]) | ((first | refine LCB.cond (by simp only [seval, evx] <;> rfl) ?_ ?_ | refine wpG_split (by simp only [seval, evx] <;> rfl) ?_ ?_ | refine wxG_split (by simp only [seval, evx] <;> rfl) ?_ ?_) <;> (intro hc; try simp only [seval, nf] at hc)) | refine ACalls.inst ?_ | refine CallX.inst ?_ | (with_reducible refine And.intro ?_ ?_) | exact True.intro)
  refine R.loop (S := Nat) ⟨fun i => [(34, .agg (wc s.L)), (35, .int .i64 (i : Int))], fun i => H ++ [], fun i => i ≤ 24 ∧ (s.L.drop i).all okW = B, fun i => 24 - i⟩ 0 ⟨Nat.zero_le _, hB.of⟩ (Weak.at hcl ?_) ?_
  · simp only [seval, evw, List.forall_mem_cons, List.forall_mem_map, List.forall_mem_append, List.not_mem_nil, sb, ew, insA, encIns, ins_dec, ins_eta, *]
  rintro i ⟨hi, hq⟩
  simp only at hi hq ⊢
  by_cases hlt : i < 24
  · have hll := hL.of
    have d1 : (i : Int) < 24 := by omega
    have d2 : IntKind.i64.wrap ((i : Int) + 1) = ((i + 1 : Nat) : Int) := by rw [IntKind.wrap_i64]; omega
    have hg := wc_pair s.L i (by omega)
    rw [drop_W (by omega), List.all_cons] at hq
    have d3 : i * 2 + 2 ≤ 48 := by omega
    generalize s.L.getD i noW = w at *
    obtain ⟨wi, wv⟩ := w
    simp only [encW_def] at hg
    clear hll
    cases wi
    · by_cases hv : wv = 0
      · subst hv
        have hq2 : (s.L.drop (i + 1)).all okW = B := by simpa [okW] using hq
        replace hq2 := Hold.mk hq2
        replace hq := Hold.mk hq
        repeat' (first | simp only [seval, evx, beq_self_eq_true, sb, ew, insA, encIns, ins_dec, ins_eta, *] | simp (disch := omega) only [if_pos, if_neg] | refine R.seq ?_ | refine LCB.text ?_ | refine LCB.quiet rfl ?_ | refine R.anyX ?_ | refine R.block ?_ | refine LCB.skip ?_ | refine LCB.exit ?_ | refine LCB.ret ?_ | ((first | refine RetOk.val hcl ?_ | refine Weak.at hcl ?_); simp only [seval, evw, List.forall_mem_cons, List.forall_mem_map, List.forall_mem_append, List.not_mem_nil, sb, ew, insA, encIns, ins_dec, ins_eta, *]) | ((first | refine LCB.cond (by simp only [seval, evx] <;> rfl) ?_ ?_ | refine wpG_split (by simp only [seval, evx] <;> rfl) ?_ ?_ | refine wxG_split (by simp only [seval, evx] <;> rfl) ?_ ?_) <;> (intro hc; try simp only [seval, nf] at hc)) | refine ACalls.inst ?_ | refine CallX.inst ?_ | (with_reducible refine And.intro ?_ ?_) | exact True.intro)
        refine ⟨i + 1, ⟨hlt, hq2.of⟩, by simp only; omega, Weak.at hcl ?_⟩
        simp only [seval, evw, List.forall_mem_cons, List.forall_mem_map, List.forall_mem_append, List.not_mem_nil, sb, ew, insA, encIns, ins_dec, ins_eta, *]
      · have hBf : B = false := by rw [← hq]; simp [okW, hv]
        subst hBf
        replace hq := Hold.mk hq
        repeat' (first | simp only [seval, evx, beq_self_eq_true, sb, ew, insA, encIns, ins_dec, ins_eta, *] | simp (disch := omega) only [if_pos, if_neg] | refine R.seq ?_ | refine LCB.text ?_ | refine LCB.quiet rfl ?_ | refine R.anyX ?_ | refine R.block ?_ | refine LCB.skip ?_ | refine LCB.exit ?_ | refine LCB.ret ?_ | ((first | refine RetOk.val hcl ?_ | refine Weak.at hcl ?_); simp only [seval, evw, List.forall_mem_cons, List.forall_mem_map, List.forall_mem_append, List.not_mem_nil, sb, ew, insA, encIns, ins_dec, ins_eta, *]) | ((first | refine LCB.cond (by simp only [seval, evx] <;> rfl) ?_ ?_ | refine wpG_split (by simp only [seval, evx] <;> rfl) ?_ ?_ | refine wxG_split (by simp only [seval, evx] <;> rfl) ?_ ?_) <;> (intro hc; try simp only [seval, nf] at hc)) | refine ACalls.inst ?_ | refine CallX.inst ?_ | (with_reducible refine And.intro ?_ ?_) | exact True.intro)
    · have hq2 : (s.L.drop (i + 1)).all okW = B := by simpa [okW] using hq
      replace hq2 := Hold.mk hq2
      replace hq := Hold.mk hq
      repeat' (first | simp only [seval, evx, beq_self_eq_true, sb, ew, insA, encIns, ins_dec, ins_eta, *] | simp (disch := omega) only [if_pos, if_neg] | refine R.seq ?_ | refine LCB.text ?_ | refine LCB.quiet rfl ?_ | refine R.anyX ?_ | refine R.block ?_ | refine LCB.skip ?_ | refine LCB.exit ?_ | refine LCB.ret ?_ | ((first | refine RetOk.val hcl ?_ | refine Weak.at hcl ?_); simp only [seval, evw, List.forall_mem_cons, List.forall_mem_map, List.forall_mem_append, List.not_mem_nil, sb, ew, insA, encIns, ins_dec, ins_eta, *]) | ((first | refine LCB.cond (by simp only [seval, evx] <;> rfl) ?_ ?_ | refine wpG_split (by simp only [seval, evx] <;> rfl) ?_ ?_ | refine wxG_split (by simp only [seval, evx] <;> rfl) ?_ ?_) <;> (intro hc; try simp only [seval, nf] at hc)) | refine ACalls.inst ?_ | refine CallX.inst ?_ | (with_reducible refine And.intro ?_ ?_) | exact True.intro)
      refine ⟨i + 1, ⟨hlt, hq2.of⟩, by simp only; omega, Weak.at hcl ?_⟩
      simp only [seval, evw, List.forall_mem_cons, List.forall_mem_map, List.forall_mem_append, List.not_mem_nil, sb, ew, insA, encIns, ins_dec, ins_eta, *]
  · have hie : i = 24 := by omega
    subst hie
    have hBt : B = true := by rw [← hq, List.drop_of_length_le (by rw [hL.of]; omega)]; rfl
    subst hBt
    replace hq := Hold.mk hq
    repeat' (first | simp only [seval, evx, beq_self_eq_true, sb, ew, insA, encIns, ins_dec, ins_eta, *] | simp (disch := omega) only [if_pos, if_neg] | refine R.seq ?_ | refine LCB.text ?_ | refine LCB.quiet rfl ?_ | refine R.anyX ?_ | refine R.block ?_ | refine LCB.skip ?_ | refine LCB.exit ?_ | refine LCB.ret ?_ | ((first | refine RetOk.val hcl ?_ | refine Weak.at hcl ?_); simp only [seval, evw, List.forall_mem_cons, List.forall_mem_map, List.forall_mem_append, List.not_mem_nil, sb, ew, insA, encIns, ins_dec, ins_eta, *]) | ((first | refine LCB.cond (by simp only [seval, evx] <;> rfl) ?_ ?_ | refine wpG_split (by simp only [seval, evx] <;> rfl) ?_ ?_ | refine wxG_split (by simp only [seval, evx] <;> rfl) ?_ ?_) <;> (intro hc; try simp only [seval, nf] at hc)) | refine ACalls.inst ?_ | refine CallX.inst ?_ | (with_reducible refine And.intro ?_ ?_) | exact True.intro)
end Go.Proofs.YtbkbehkjndmabaaDoor

/-
  step: the document's states; whether two are alike; a state of its own.
-/
namespace Go.Proofs.YtbkbehkjndmabaaDoor
open Go.RowKit
set_option linter.unusedVariables false
set_option linter.unusedSimpArgs false
theorem w_dec (x y : W) : ((x.is == y.is) && decide (x.v = y.v)) = decide (x = y) := by
  cases x; cases y
  rw [Bool.eq_iff_iff]
  simp
theorem ev_dec (x y : Ev) : (decide (x.n = y.n) && (decide (x.arg = y.arg) && decide (x.ans = y.ans))) = decide (x = y) := by
  cases x; cases y
  rw [Bool.eq_iff_iff]
  simp
theorem getD_encEv {l : List Ev} {j : Nat} (h : j < l.length) : (l.map encEv).getD j [] = [.int .i64 (l.getD j ⟨0, 0, 0⟩).n, .int .i64 (l.getD j ⟨0, 0, 0⟩).arg, .int .i64 (l.getD j ⟨0, 0, 0⟩).ans] := by
  simp [List.getD, h, encEv]
theorem drop_Ev {l : List Ev} {j : Nat} (h : j < l.length) : l.drop j = l.getD j ⟨0, 0, 0⟩ :: l.drop (j + 1) := by
  rw [List.drop_eq_getElem_cons h]
  simp [List.getD, h]
theorem ref07_With_ok (L : List W) (i : Nat) (w : W) (hi : i < L.length) (hL : L.length ≤ 1000) : Pure Tryd.prog 46 [.list (L.map encW), .int .i64 (i : Int), .agg [.bool w.is, .int .i64 w.v]] (.list ((L.set i w).map encW)) := by
  intro H
  refine ACalls.go joineryref07_With.low (by simp) fun hcl => ?_
  have e1 : (i : Int) < (L.length : Int) := by omega
  have rk : rowsOk 2 (L.map encW) = true := rk_map fun x _ => ⟨rfl, rfl⟩
  have b1 : L.length * 16 ≤ 140737488355328 := by omega
  have b2 : L.length ≤ 9223372036854775807 := by omega
  have hgn : (L.map encW)[i]? = some [.bool (L.getD i noW).is, .int .i64 (L.getD i noW).v] := by simp [encW, hi]
  have ms : (L.map encW).set i [.bool w.is, .int .i64 w.v] = (L.set i w).map encW := by rw [List.map_set]; rfl
  have hsl : (L.set i w).length = L.length := by simp
  have tkk : List.take L.length ((L.set i w).map encW) = (L.set i w).map encW := List.take_of_length_le (by simp)
  generalize L.getD i noW = u at *
  repeat' (first | simp only [seval, evx, beq_self_eq_true, sb, ew, insA, encIns, ins_dec, ins_eta, w_dec, ev_dec, *] | simp (disch := omega) only [if_pos, if_neg] | refine R.seq ?_ | refine LCB.text ?_ | refine LCB.quiet rfl ?_ | refine R.anyX ?_ | refine R.block ?_ | refine LCB.skip ?_ | refine LCB.exit ?_ | refine LCB.ret ?_ | ((first | refine RetOk.val hcl ?_ | refine Weak.at hcl ?_); simp only [seval, evw, List.forall_mem_cons, List.forall_mem_map, List.forall_mem_append, List.not_mem_nil, sb, ew, insA, encIns, ins_dec, ins_eta, w_dec, ev_dec, *]) | ((first | refine LCB.cond (by simp only [seval, evx] <;> rfl) ?_ ?_ | refine wpG_split (by simp only [seval, evx] <;> rfl) ?_ ?_ | refine wxG_split (by simp only [seval, evx] <;> rfl) ?_ ?_) <;> (intro hc; try simp only [seval, nf] at hc)) | refine ACalls.inst ?_ | refine CallX.inst ?_ | (with_reducible refine And.intro ?_ ?_) | exact True.intro)
theorem ref07_SameEvents_ok (a b : List Ev) (hl : a.length ≤ 9223372036854775806) : Pure Tryd.prog 24 [evs a, evs b] (.bool (decide (a = b))) := by
  intro H
  refine ACalls.go joineryref07_SameEvents.low (by simp) fun hcl => ?_
  rw [evs_eq, evs_eq]
  generalize hB : decide (a = b) = B
  replace hB := Hold.mk hB
  by_cases hlen : a.length = b.length
  case neg =>
    have e1 : ¬ (a.length : Int) = (b.length : Int) := by omega
    have hBf : B = false := by
      rw [← hB.of, decide_eq_false_iff_not]
      rintro rfl
      exact hlen rfl
    subst hBf
    repeat' (first | simp only [seval, evx, beq_self_eq_true, sb, ew, insA, encIns, ins_dec, ins_eta, w_dec, ev_dec, *] | simp (disch := omega) only [if_pos, if_neg] | refine R.seq ?_ | refine LCB.text ?_ | refine LCB.quiet rfl ?_ | refine R.anyX ?_ | refine R.block ?_ | refine LCB.skip ?_ | refine LCB.exit ?_ | refine LCB.ret ?_ | ((first | refine RetOk.val hcl ?_ | refine Weak.at hcl ?_); simp only [seval, evw, List.forall_mem_cons, List.forall_mem_map, List.forall_mem_append, List.not_mem_nil, sb, ew, insA, encIns, ins_dec, ins_eta, w_dec, ev_dec, *]) | ((first | refine LCB.cond (by simp only [seval, evx] <;> rfl) ?_ ?_ | refine wpG_split (by simp only [seval, evx] <;> rfl) ?_ ?_ | refine wxG_split (by simp only [seval, evx] <;> rfl) ?_ ?_) <;> (intro hc; try simp only [seval, nf] at hc)) | refine ACalls.inst ?_ | refine CallX.inst ?_ | (with_reducible refine And.intro ?_ ?_) | exact True.intro)
  have e1 : (a.length : Int) = (b.length : Int) := by omega
  replace e1 := Hold.mk e1
  replace hlen := Hold.mk hlen
  have e1' := Hold.mk (decide_eq_true e1.of)
  have e0 : decide ((a.length : Int) = (b.length : Int)) = true := e1'.of
  repeat' (first | simp only [seval, evx, beq_self_eq_true, sb, ew, insA, encIns, ins_dec, ins_eta, w_dec, ev_dec, *] | simp (disch := omega) only [if_pos, if_neg] | refine R.seq ?_ | refine LCB.text ?_ | refine LCB.quiet rfl ?_ | refine R.anyX ?_ | refine R.block ?_ | refine LCB.skip ?_ | refine LCB.exit ?_ | refine LCB.ret ?_ | ((first | refine RetOk.val hcl ?_ | refine Weak.at hcl ?_); simp only [seval, evw, List.forall_mem_cons, List.forall_mem_map, List.forall_mem_append, List.not_mem_nil, sb, ew, insA, encIns, ins_dec, ins_eta, w_dec, ev_dec, *]) | ((first | refine LCB.cond (by simp only [seval, evx] <;> rfl) ?_ ?_ | refine wpG_split (by simp only [seval, evx] <;> rfl) ?_ ?_ | refine wxG_split (by simp only [seval, evx] <;> rfl) ?_ ?_) <;> (intro hc; try simp only [seval, nf] at hc)) | refine ACalls.inst ?_ | refine CallX.inst ?_ | (with_reducible refine And.intro ?_ ?_) | exact True.intro)
  refine R.loop (S := Nat) ⟨fun i => [(0, .list (a.map encEv)), (1, .list (b.map encEv)), (5, .int .i64 (i : Int))], fun i => H ++ [], fun i => i ≤ a.length ∧ decide (a.drop i = b.drop i) = B, fun i => a.length - i⟩ 0 ⟨Nat.zero_le _, hB.of⟩ (Weak.at hcl ?_) ?_
  · simp only [seval, evw, List.forall_mem_cons, List.forall_mem_map, List.forall_mem_append, List.not_mem_nil, sb, ew, insA, encIns, ins_dec, ins_eta, w_dec, ev_dec, *]
  clear e0
  rintro i ⟨hi, hq⟩
  simp only at hi hq ⊢
  by_cases hlt : i < a.length
  · have e2 : (i : Int) < (a.length : Int) := by omega
    have hlt2 : i < b.length := by have := hlen.of; omega
    have e3 : (i : Int) < (b.length : Int) := by omega
    have hg := getD_encEv hlt
    have hg2 := getD_encEv hlt2
    have e4 : IntKind.i64.wrap ((i : Int) + 1) = ((i + 1 : Nat) : Int) := by rw [IntKind.wrap_i64]; omega
    rw [drop_Ev hlt, drop_Ev hlt2] at hq
    generalize a.getD i ⟨0, 0, 0⟩ = x at *
    generalize b.getD i ⟨0, 0, 0⟩ = y at *
    by_cases hxy : x = y
    · subst hxy
      have hq2 : decide (a.drop (i + 1) = b.drop (i + 1)) = B := by simpa using hq
      clear hq
      replace hq2 := Hold.mk hq2
      repeat' (first | simp only [seval, evx, beq_self_eq_true, sb, ew, insA, encIns, ins_dec, ins_eta, w_dec, ev_dec, *] | simp (disch := omega) only [if_pos, if_neg] | refine R.seq ?_ | refine LCB.text ?_ | refine LCB.quiet rfl ?_ | refine R.anyX ?_ | refine R.block ?_ | refine LCB.skip ?_ | refine LCB.exit ?_ | refine LCB.ret ?_ | ((first | refine RetOk.val hcl ?_ | refine Weak.at hcl ?_); simp only [seval, evw, List.forall_mem_cons, List.forall_mem_map, List.forall_mem_append, List.not_mem_nil, sb, ew, insA, encIns, ins_dec, ins_eta, w_dec, ev_dec, *]) | ((first | refine LCB.cond (by simp only [seval, evx] <;> rfl) ?_ ?_ | refine wpG_split (by simp only [seval, evx] <;> rfl) ?_ ?_ | refine wxG_split (by simp only [seval, evx] <;> rfl) ?_ ?_) <;> (intro hc; try simp only [seval, nf] at hc)) | refine ACalls.inst ?_ | refine CallX.inst ?_ | (with_reducible refine And.intro ?_ ?_) | exact True.intro)
      refine ⟨i + 1, ⟨hlt, hq2.of⟩, by simp only; omega, Weak.at hcl ?_⟩
      simp only [seval, evw, List.forall_mem_cons, List.forall_mem_map, List.forall_mem_append, List.not_mem_nil, sb, ew, insA, encIns, ins_dec, ins_eta, w_dec, ev_dec, *]
    · have hBf : B = false := by rw [← hq]; simp [hxy]
      subst hBf
      replace hq := Hold.mk hq
      repeat' (first | simp only [seval, evx, beq_self_eq_true, sb, ew, insA, encIns, ins_dec, ins_eta, w_dec, ev_dec, *] | simp (disch := omega) only [if_pos, if_neg] | refine R.seq ?_ | refine LCB.text ?_ | refine LCB.quiet rfl ?_ | refine R.anyX ?_ | refine R.block ?_ | refine LCB.skip ?_ | refine LCB.exit ?_ | refine LCB.ret ?_ | ((first | refine RetOk.val hcl ?_ | refine Weak.at hcl ?_); simp only [seval, evw, List.forall_mem_cons, List.forall_mem_map, List.forall_mem_append, List.not_mem_nil, sb, ew, insA, encIns, ins_dec, ins_eta, w_dec, ev_dec, *]) | ((first | refine LCB.cond (by simp only [seval, evx] <;> rfl) ?_ ?_ | refine wpG_split (by simp only [seval, evx] <;> rfl) ?_ ?_ | refine wxG_split (by simp only [seval, evx] <;> rfl) ?_ ?_) <;> (intro hc; try simp only [seval, nf] at hc)) | refine ACalls.inst ?_ | refine CallX.inst ?_ | (with_reducible refine And.intro ?_ ?_) | exact True.intro)
  · have hie : i = a.length := by omega
    have e2 : ¬ (i : Int) < (a.length : Int) := by omega
    have hBt : B = true := by
      rw [← hq, List.drop_of_length_le (by omega), List.drop_of_length_le (by have := hlen.of; omega)]
      simp
    subst hBt
    clear hie
    replace hq := Hold.mk hq
    repeat' (first | simp only [seval, evx, beq_self_eq_true, sb, ew, insA, encIns, ins_dec, ins_eta, w_dec, ev_dec, *] | simp (disch := omega) only [if_pos, if_neg] | refine R.seq ?_ | refine LCB.text ?_ | refine LCB.quiet rfl ?_ | refine R.anyX ?_ | refine R.block ?_ | refine LCB.skip ?_ | refine LCB.exit ?_ | refine LCB.ret ?_ | ((first | refine RetOk.val hcl ?_ | refine Weak.at hcl ?_); simp only [seval, evw, List.forall_mem_cons, List.forall_mem_map, List.forall_mem_append, List.not_mem_nil, sb, ew, insA, encIns, ins_dec, ins_eta, w_dec, ev_dec, *]) | ((first | refine LCB.cond (by simp only [seval, evx] <;> rfl) ?_ ?_ | refine wpG_split (by simp only [seval, evx] <;> rfl) ?_ ?_ | refine wxG_split (by simp only [seval, evx] <;> rfl) ?_ ?_) <;> (intro hc; try simp only [seval, nf] at hc)) | refine ACalls.inst ?_ | refine CallX.inst ?_ | (with_reducible refine And.intro ?_ ?_) | exact True.intro)
theorem out_dec (a b : Out) : (decide (a.how = b.how) && (decide (a.value = b.value) && decide (a.heap = b.heap))) = decide (a = b) := by
  cases a; cases b
  rw [Bool.eq_iff_iff]
  simp
theorem ref07_SameOutcome_ok (a b : Out) (hl : a.heap.length ≤ 9223372036854775806) : Pure Tryd.prog 22 [outA a, outA b] (.bool (decide (a = b))) := by
  intro H
  refine ACalls.go joineryref07_SameOutcome.low (by simp) fun hcl => ?_
  have h1 := Hold.mk (ref06_Same_ok a.heap b.heap hl)
  rw [← out_dec]
  rw [outA_eq, outA_eq]
  unfold ints at h1
  by_cases k1 : a.how = b.how
  · by_cases k2 : a.value = b.value
    · repeat' (first | simp only [seval, evx, beq_self_eq_true, sb, ew, insA, encIns, ins_dec, ins_eta, w_dec, ev_dec, *] | simp (disch := omega) only [if_pos, if_neg] | refine R.seq ?_ | refine LCB.text ?_ | refine LCB.quiet rfl ?_ | refine R.anyX ?_ | refine R.block ?_ | refine LCB.skip ?_ | refine LCB.exit ?_ | refine LCB.ret ?_ | ((first | refine RetOk.val hcl ?_ | refine Weak.at hcl ?_); simp only [seval, evw, List.forall_mem_cons, List.forall_mem_map, List.forall_mem_append, List.not_mem_nil, sb, ew, insA, encIns, ins_dec, ins_eta, w_dec, ev_dec, *]) | ((first | refine LCB.cond (by simp only [seval, evx] <;> rfl) ?_ ?_ | refine wpG_split (by simp only [seval, evx] <;> rfl) ?_ ?_ | refine wxG_split (by simp only [seval, evx] <;> rfl) ?_ ?_) <;> (intro hc; try simp only [seval, nf] at hc)) | refine ACalls.inst ?_ | refine CallX.inst ?_ | (with_reducible refine And.intro ?_ ?_) | exact True.intro)
      first | refine ACalls.pure (h1.of) ?_ | refine CallP.pure (h1.of) rfl ?_ | refine CallX.pure (h1.of) ?_
      repeat' (first | simp only [seval, evx, beq_self_eq_true, sb, ew, insA, encIns, ins_dec, ins_eta, w_dec, ev_dec, *] | simp (disch := omega) only [if_pos, if_neg] | refine R.seq ?_ | refine LCB.text ?_ | refine LCB.quiet rfl ?_ | refine R.anyX ?_ | refine R.block ?_ | refine LCB.skip ?_ | refine LCB.exit ?_ | refine LCB.ret ?_ | ((first | refine RetOk.val hcl ?_ | refine Weak.at hcl ?_); simp only [seval, evw, List.forall_mem_cons, List.forall_mem_map, List.forall_mem_append, List.not_mem_nil, sb, ew, insA, encIns, ins_dec, ins_eta, w_dec, ev_dec, *]) | ((first | refine LCB.cond (by simp only [seval, evx] <;> rfl) ?_ ?_ | refine wpG_split (by simp only [seval, evx] <;> rfl) ?_ ?_ | refine wxG_split (by simp only [seval, evx] <;> rfl) ?_ ?_) <;> (intro hc; try simp only [seval, nf] at hc)) | refine ACalls.inst ?_ | refine CallX.inst ?_ | (with_reducible refine And.intro ?_ ?_) | exact True.intro)
    · repeat' (first | simp only [seval, evx, beq_self_eq_true, sb, ew, insA, encIns, ins_dec, ins_eta, w_dec, ev_dec, *] | simp (disch := omega) only [if_pos, if_neg] | refine R.seq ?_ | refine LCB.text ?_ | refine LCB.quiet rfl ?_ | refine R.anyX ?_ | refine R.block ?_ | refine LCB.skip ?_ | refine LCB.exit ?_ | refine LCB.ret ?_ | ((first | refine RetOk.val hcl ?_ | refine Weak.at hcl ?_); simp only [seval, evw, List.forall_mem_cons, List.forall_mem_map, List.forall_mem_append, List.not_mem_nil, sb, ew, insA, encIns, ins_dec, ins_eta, w_dec, ev_dec, *]) | ((first | refine LCB.cond (by simp only [seval, evx] <;> rfl) ?_ ?_ | refine wpG_split (by simp only [seval, evx] <;> rfl) ?_ ?_ | refine wxG_split (by simp only [seval, evx] <;> rfl) ?_ ?_) <;> (intro hc; try simp only [seval, nf] at hc)) | refine ACalls.inst ?_ | refine CallX.inst ?_ | (with_reducible refine And.intro ?_ ?_) | exact True.intro)
  · repeat' (first | simp only [seval, evx, beq_self_eq_true, sb, ew, insA, encIns, ins_dec, ins_eta, w_dec, ev_dec, *] | simp (disch := omega) only [if_pos, if_neg] | refine R.seq ?_ | refine LCB.text ?_ | refine LCB.quiet rfl ?_ | refine R.anyX ?_ | refine R.block ?_ | refine LCB.skip ?_ | refine LCB.exit ?_ | refine LCB.ret ?_ | ((first | refine RetOk.val hcl ?_ | refine Weak.at hcl ?_); simp only [seval, evw, List.forall_mem_cons, List.forall_mem_map, List.forall_mem_append, List.not_mem_nil, sb, ew, insA, encIns, ins_dec, ins_eta, w_dec, ev_dec, *]) | ((first | refine LCB.cond (by simp only [seval, evx] <;> rfl) ?_ ?_ | refine wpG_split (by simp only [seval, evx] <;> rfl) ?_ ?_ | refine wxG_split (by simp only [seval, evx] <;> rfl) ?_ ?_) <;> (intro hc; try simp only [seval, nf] at hc)) | refine ACalls.inst ?_ | refine CallX.inst ?_ | (with_reducible refine And.intro ?_ ?_) | exact True.intro)
theorem st_dec (a b : St) : (decide (a.L = b.L) && (decide (a.heap = b.heap) && (decide (a.pc = b.pc) && decide (a.asked = b.asked)))) = decide (a = b) := by
  cases a; cases b
  rw [Bool.eq_iff_iff]
  simp
set_option maxHeartbeats 1000000 in
theorem ref07_Same_ok (a b : St) (ha : a.L.length = 24) (hb : b.L.length = 24) (hl : a.heap.length ≤ 9223372036854775806) : Pure Tryd.prog 21 [rsA a, rsA b] (.bool (decide (a = b))) := by
  intro H
  refine ACalls.go joineryref07_Same.low (by simp) fun hcl => ?_
  have h1 := Hold.mk (ref06_Same_ok a.heap b.heap hl)
  rw [rsA_eq, rsA_eq]
  unfold ints at h1
  have hab : ((a.L.length : Nat) : Int) = 24 := by omega
  have hbb : ((b.L.length : Nat) : Int) = 24 := by omega
  by_cases k2 : a.pc = b.pc
  case neg =>
    have hr : decide (a = b) = false := by rw [← st_dec]; simp [k2]
    rw [hr]
    replace hr := Hold.mk hr
    repeat' (first | simp only [seval, evx, beq_self_eq_true, sb, ew, insA, encIns, ins_dec, ins_eta, w_dec, ev_dec, *] | simp (disch := omega) only [if_pos, if_neg] | refine R.seq ?_ | refine LCB.text ?_ | refine LCB.quiet rfl ?_ | refine R.anyX ?_ | refine R.block ?_ | refine LCB.skip ?_ | refine LCB.exit ?_ | refine LCB.ret ?_ | ((first | refine RetOk.val hcl ?_ | refine Weak.at hcl ?_); simp only [seval, evw, List.forall_mem_cons, List.forall_mem_map, List.forall_mem_append, List.not_mem_nil, sb, ew, insA, encIns, ins_dec, ins_eta, w_dec, ev_dec, *]) | ((first | refine LCB.cond (by simp only [seval, evx] <;> rfl) ?_ ?_ | refine wpG_split (by simp only [seval, evx] <;> rfl) ?_ ?_ | refine wxG_split (by simp only [seval, evx] <;> rfl) ?_ ?_) <;> (intro hc; try simp only [seval, nf] at hc)) | refine ACalls.inst ?_ | refine CallX.inst ?_ | (with_reducible refine And.intro ?_ ?_) | exact True.intro)
  by_cases k3 : a.asked = b.asked
  case neg =>
    have hr : decide (a = b) = false := by rw [← st_dec]; simp [k3]
    rw [hr]
    replace hr := Hold.mk hr
    repeat' (first | simp only [seval, evx, beq_self_eq_true, sb, ew, insA, encIns, ins_dec, ins_eta, w_dec, ev_dec, *] | simp (disch := omega) only [if_pos, if_neg] | refine R.seq ?_ | refine LCB.text ?_ | refine LCB.quiet rfl ?_ | refine R.anyX ?_ | refine R.block ?_ | refine LCB.skip ?_ | refine LCB.exit ?_ | refine LCB.ret ?_ | ((first | refine RetOk.val hcl ?_ | refine Weak.at hcl ?_); simp only [seval, evw, List.forall_mem_cons, List.forall_mem_map, List.forall_mem_append, List.not_mem_nil, sb, ew, insA, encIns, ins_dec, ins_eta, w_dec, ev_dec, *]) | ((first | refine LCB.cond (by simp only [seval, evx] <;> rfl) ?_ ?_ | refine wpG_split (by simp only [seval, evx] <;> rfl) ?_ ?_ | refine wxG_split (by simp only [seval, evx] <;> rfl) ?_ ?_) <;> (intro hc; try simp only [seval, nf] at hc)) | refine ACalls.inst ?_ | refine CallX.inst ?_ | (with_reducible refine And.intro ?_ ?_) | exact True.intro)
  have hR : decide (a = b) = (decide (a.L = b.L) && decide (a.heap = b.heap)) := by rw [← st_dec]; simp [k2, k3]
  rw [hR]
  generalize hB : decide (a.L = b.L) = B
  generalize hC : decide (a.heap = b.heap) = C at *
  replace hR := Hold.mk hR
  replace hB := Hold.mk hB
  replace hC := Hold.mk hC
  replace ha := Hold.mk ha
  replace hb := Hold.mk hb
  repeat' (first | simp only [seval, evx, beq_self_eq_true, sb, ew, insA, encIns, ins_dec, ins_eta, w_dec, ev_dec, *] | simp (disch := omega) only [if_pos, if_neg] | refine R.seq ?_ | refine LCB.text ?_ | refine LCB.quiet rfl ?_ | refine R.anyX ?_ | refine R.block ?_ | refine LCB.skip ?_ | refine LCB.exit ?_ | refine LCB.ret ?_ | ((first | refine RetOk.val hcl ?_ | refine Weak.at hcl ?_); simp only [seval, evw, List.forall_mem_cons, List.forall_mem_map, List.forall_mem_append, List.not_mem_nil, sb, ew, insA, encIns, ins_dec, ins_eta, w_dec, ev_dec, *]) | ((first | refine LCB.cond (by simp only [seval, evx] <;> rfl) ?_ ?_ | refine wpG_split (by simp only [seval, evx] <;> rfl) ?_ ?_ | refine wxG_split (by simp only [seval, evx] <;> rfl) ?_ ?_) <;> (intro hc; try simp only [seval, nf] at hc)) | refine ACalls.inst ?_ | refine CallX.inst ?_ | (with_reducible refine And.intro ?_ ?_) | exact True.intro)
  refine R.loop (S := Nat) ⟨fun i => [(2, .ptr H.length 1 0 0), (3, .ptr (H.length + 1) 1 0 0), (5, .int .i64 (i : Int))], fun i => H ++ [.vec 4 [[.list (a.L.map encW), .list (a.heap.map encI), .int .i64 b.pc, .int .i64 b.asked]], .vec 4 [[.list (b.L.map encW), .list (b.heap.map encI), .int .i64 b.pc, .int .i64 b.asked]]],
    fun i => i ≤ 24 ∧ decide (a.L.drop i = b.L.drop i) = B, fun i => 24 - i⟩ 0 ⟨Nat.zero_le _, hB.of⟩ (Weak.at hcl ?_) ?_
  · clear k2 k3
    simp only [seval, evw, List.forall_mem_cons, List.forall_mem_map, List.forall_mem_append, List.not_mem_nil, sb, ew, insA, encIns, ins_dec, ins_eta, w_dec, ev_dec, *]
  clear k2 k3
  rintro i ⟨hi, hq⟩
  simp only at hi hq ⊢
  have ha2 := ha.of
  have hb2 := hb.of
  by_cases hlt : i < 24
  · have e2 : (i : Int) < 24 := by omega
    have hg := getD_encW (l := a.L) (j := i) (by omega)
    have hg2 := getD_encW (l := b.L) (j := i) (by omega)
    have e4 : IntKind.i64.wrap ((i : Int) + 1) = ((i + 1 : Nat) : Int) := by rw [IntKind.wrap_i64]; omega
    rw [drop_W (l := a.L) (by omega), drop_W (l := b.L) (by omega)] at hq
    generalize a.L.getD i noW = x at *
    generalize b.L.getD i noW = y at *
    clear ha2 hb2
    by_cases hxy : x = y
    · subst hxy
      have hq2 : decide (a.L.drop (i + 1) = b.L.drop (i + 1)) = B := by simpa using hq
      clear hq
      replace hq2 := Hold.mk hq2
      repeat' (first | simp only [seval, evx, beq_self_eq_true, sb, ew, insA, encIns, ins_dec, ins_eta, w_dec, ev_dec, *] | simp (disch := omega) only [if_pos, if_neg] | refine R.seq ?_ | refine LCB.text ?_ | refine LCB.quiet rfl ?_ | refine R.anyX ?_ | refine R.block ?_ | refine LCB.skip ?_ | refine LCB.exit ?_ | refine LCB.ret ?_ | ((first | refine RetOk.val hcl ?_ | refine Weak.at hcl ?_); simp only [seval, evw, List.forall_mem_cons, List.forall_mem_map, List.forall_mem_append, List.not_mem_nil, sb, ew, insA, encIns, ins_dec, ins_eta, w_dec, ev_dec, *]) | ((first | refine LCB.cond (by simp only [seval, evx] <;> rfl) ?_ ?_ | refine wpG_split (by simp only [seval, evx] <;> rfl) ?_ ?_ | refine wxG_split (by simp only [seval, evx] <;> rfl) ?_ ?_) <;> (intro hc; try simp only [seval, nf] at hc)) | refine ACalls.inst ?_ | refine CallX.inst ?_ | (with_reducible refine And.intro ?_ ?_) | exact True.intro)
      refine ⟨i + 1, ⟨hlt, hq2.of⟩, by simp only; omega, Weak.at hcl ?_⟩
      simp only [seval, evw, List.forall_mem_cons, List.forall_mem_map, List.forall_mem_append, List.not_mem_nil, sb, ew, insA, encIns, ins_dec, ins_eta, w_dec, ev_dec, *]
    · have hBf : B = false := by rw [← hq]; simp [hxy]
      subst hBf
      replace hq := Hold.mk hq
      repeat' (first | simp only [seval, evx, beq_self_eq_true, sb, ew, insA, encIns, ins_dec, ins_eta, w_dec, ev_dec, *] | simp (disch := omega) only [if_pos, if_neg] | refine R.seq ?_ | refine LCB.text ?_ | refine LCB.quiet rfl ?_ | refine R.anyX ?_ | refine R.block ?_ | refine LCB.skip ?_ | refine LCB.exit ?_ | refine LCB.ret ?_ | ((first | refine RetOk.val hcl ?_ | refine Weak.at hcl ?_); simp only [seval, evw, List.forall_mem_cons, List.forall_mem_map, List.forall_mem_append, List.not_mem_nil, sb, ew, insA, encIns, ins_dec, ins_eta, w_dec, ev_dec, *]) | ((first | refine LCB.cond (by simp only [seval, evx] <;> rfl) ?_ ?_ | refine wpG_split (by simp only [seval, evx] <;> rfl) ?_ ?_ | refine wxG_split (by simp only [seval, evx] <;> rfl) ?_ ?_) <;> (intro hc; try simp only [seval, nf] at hc)) | refine ACalls.inst ?_ | refine CallX.inst ?_ | (with_reducible refine And.intro ?_ ?_) | exact True.intro)
  · have hie : i = 24 := by omega
    subst hie
    have hBt : B = true := by
      rw [← hq, List.drop_of_length_le (by omega), List.drop_of_length_le (by omega)]
      simp
    subst hBt
    clear ha2 hb2
    replace hq := Hold.mk hq
    repeat' (first | simp only [seval, evx, beq_self_eq_true, sb, ew, insA, encIns, ins_dec, ins_eta, w_dec, ev_dec, *] | simp (disch := omega) only [if_pos, if_neg] | refine R.seq ?_ | refine LCB.text ?_ | refine LCB.quiet rfl ?_ | refine R.anyX ?_ | refine R.block ?_ | refine LCB.skip ?_ | refine LCB.exit ?_ | refine LCB.ret ?_ | ((first | refine RetOk.val hcl ?_ | refine Weak.at hcl ?_); simp only [seval, evw, List.forall_mem_cons, List.forall_mem_map, List.forall_mem_append, List.not_mem_nil, sb, ew, insA, encIns, ins_dec, ins_eta, w_dec, ev_dec, *]) | ((first | refine LCB.cond (by simp only [seval, evx] <;> rfl) ?_ ?_ | refine wpG_split (by simp only [seval, evx] <;> rfl) ?_ ?_ | refine wxG_split (by simp only [seval, evx] <;> rfl) ?_ ?_) <;> (intro hc; try simp only [seval, nf] at hc)) | refine ACalls.inst ?_ | refine CallX.inst ?_ | (with_reducible refine And.intro ?_ ?_) | exact True.intro)
    first | refine ACalls.pure (h1.of) ?_ | refine CallP.pure (h1.of) rfl ?_ | refine CallX.pure (h1.of) ?_
    repeat' (first | simp only [seval, evx, beq_self_eq_true, sb, ew, insA, encIns, ins_dec, ins_eta, w_dec, ev_dec, *] | simp (disch := omega) only [if_pos, if_neg] | refine R.seq ?_ | refine LCB.text ?_ | refine LCB.quiet rfl ?_ | refine R.anyX ?_ | refine R.block ?_ | refine LCB.skip ?_ | refine LCB.exit ?_ | refine LCB.ret ?_ | ((first | refine RetOk.val hcl ?_ | refine Weak.at hcl ?_); simp only [seval, evw, List.forall_mem_cons, List.forall_mem_map, List.forall_mem_append, List.not_mem_nil, sb, ew, insA, encIns, ins_dec, ins_eta, w_dec, ev_dec, *]) | ((first | refine LCB.cond (by simp only [seval, evx] <;> rfl) ?_ ?_ | refine wpG_split (by simp only [seval, evx] <;> rfl) ?_ ?_ | refine wxG_split (by simp only [seval, evx] <;> rfl) ?_ ?_) <;> (intro hc; try simp only [seval, nf] at hc)) | refine ACalls.inst ?_ | refine CallX.inst ?_ | (with_reducible refine And.intro ?_ ?_) | exact True.intro)
set_option maxHeartbeats 1000000 in
theorem ref07_Right_ok (f : List Ins) (s : St) (hL : s.L.length = 24) : Pure Tryd.prog 18 [encFn f, rsA s] (.bool (stRight f s)) := by
  intro H
  refine ACalls.go joineryref07_Right.low (by simp) fun hcl => ?_
  rw [rsA_eq]
  have h1 := Hold.mk (ref04_Right_ok f)
  have hr : stRight f s = (fnOk f && (decide (0 ≤ s.pc) && (decide (s.pc < (f.length : Int)) && (decide (s.heap.length ≤ 16) && (decide (0 ≤ s.asked) && s.L.all okW))))) := rfl
  rw [hr]
  clear hr
  generalize fnOk f = b1 at *
  unfold encFn at *
  have hab : ((s.L.length : Nat) : Int) = 24 := by omega
  cases b1
  · repeat' (first | simp only [seval, evx, beq_self_eq_true, sb, ew, insA, encIns, ins_dec, ins_eta, w_dec, ev_dec, *] | simp (disch := omega) only [if_pos, if_neg] | refine R.seq ?_ | refine LCB.text ?_ | refine LCB.quiet rfl ?_ | refine R.anyX ?_ | refine R.block ?_ | refine LCB.skip ?_ | refine LCB.exit ?_ | refine LCB.ret ?_ | ((first | refine RetOk.val hcl ?_ | refine Weak.at hcl ?_); simp only [seval, evw, List.forall_mem_cons, List.forall_mem_map, List.forall_mem_append, List.not_mem_nil, sb, ew, insA, encIns, ins_dec, ins_eta, w_dec, ev_dec, *]) | ((first | refine LCB.cond (by simp only [seval, evx] <;> rfl) ?_ ?_ | refine wpG_split (by simp only [seval, evx] <;> rfl) ?_ ?_ | refine wxG_split (by simp only [seval, evx] <;> rfl) ?_ ?_) <;> (intro hc; try simp only [seval, nf] at hc)) | refine ACalls.inst ?_ | refine CallX.inst ?_ | (with_reducible refine And.intro ?_ ?_) | exact True.intro)
    first | refine ACalls.pure (h1.of) ?_ | refine CallP.pure (h1.of) rfl ?_ | refine CallX.pure (h1.of) ?_
    repeat' (first | simp only [seval, evx, beq_self_eq_true, sb, ew, insA, encIns, ins_dec, ins_eta, w_dec, ev_dec, *] | simp (disch := omega) only [if_pos, if_neg] | refine R.seq ?_ | refine LCB.text ?_ | refine LCB.quiet rfl ?_ | refine R.anyX ?_ | refine R.block ?_ | refine LCB.skip ?_ | refine LCB.exit ?_ | refine LCB.ret ?_ | ((first | refine RetOk.val hcl ?_ | refine Weak.at hcl ?_); simp only [seval, evw, List.forall_mem_cons, List.forall_mem_map, List.forall_mem_append, List.not_mem_nil, sb, ew, insA, encIns, ins_dec, ins_eta, w_dec, ev_dec, *]) | ((first | refine LCB.cond (by simp only [seval, evx] <;> rfl) ?_ ?_ | refine wpG_split (by simp only [seval, evx] <;> rfl) ?_ ?_ | refine wxG_split (by simp only [seval, evx] <;> rfl) ?_ ?_) <;> (intro hc; try simp only [seval, nf] at hc)) | refine ACalls.inst ?_ | refine CallX.inst ?_ | (with_reducible refine And.intro ?_ ?_) | exact True.intro)
  by_cases k2 : s.pc < 0
  · have e2 : decide (0 ≤ s.pc) = false := decide_eq_false (by omega)
    repeat' (first | simp only [seval, evx, beq_self_eq_true, sb, ew, insA, encIns, ins_dec, ins_eta, w_dec, ev_dec, *] | simp (disch := omega) only [if_pos, if_neg] | refine R.seq ?_ | refine LCB.text ?_ | refine LCB.quiet rfl ?_ | refine R.anyX ?_ | refine R.block ?_ | refine LCB.skip ?_ | refine LCB.exit ?_ | refine LCB.ret ?_ | ((first | refine RetOk.val hcl ?_ | refine Weak.at hcl ?_); simp only [seval, evw, List.forall_mem_cons, List.forall_mem_map, List.forall_mem_append, List.not_mem_nil, sb, ew, insA, encIns, ins_dec, ins_eta, w_dec, ev_dec, *]) | ((first | refine LCB.cond (by simp only [seval, evx] <;> rfl) ?_ ?_ | refine wpG_split (by simp only [seval, evx] <;> rfl) ?_ ?_ | refine wxG_split (by simp only [seval, evx] <;> rfl) ?_ ?_) <;> (intro hc; try simp only [seval, nf] at hc)) | refine ACalls.inst ?_ | refine CallX.inst ?_ | (with_reducible refine And.intro ?_ ?_) | exact True.intro)
    first | refine ACalls.pure (h1.of) ?_ | refine CallP.pure (h1.of) rfl ?_ | refine CallX.pure (h1.of) ?_
    repeat' (first | simp only [seval, evx, beq_self_eq_true, sb, ew, insA, encIns, ins_dec, ins_eta, w_dec, ev_dec, *] | simp (disch := omega) only [if_pos, if_neg] | refine R.seq ?_ | refine LCB.text ?_ | refine LCB.quiet rfl ?_ | refine R.anyX ?_ | refine R.block ?_ | refine LCB.skip ?_ | refine LCB.exit ?_ | refine LCB.ret ?_ | ((first | refine RetOk.val hcl ?_ | refine Weak.at hcl ?_); simp only [seval, evw, List.forall_mem_cons, List.forall_mem_map, List.forall_mem_append, List.not_mem_nil, sb, ew, insA, encIns, ins_dec, ins_eta, w_dec, ev_dec, *]) | ((first | refine LCB.cond (by simp only [seval, evx] <;> rfl) ?_ ?_ | refine wpG_split (by simp only [seval, evx] <;> rfl) ?_ ?_ | refine wxG_split (by simp only [seval, evx] <;> rfl) ?_ ?_) <;> (intro hc; try simp only [seval, nf] at hc)) | refine ACalls.inst ?_ | refine CallX.inst ?_ | (with_reducible refine And.intro ?_ ?_) | exact True.intro)
  have e2 : decide (0 ≤ s.pc) = true := decide_eq_true (by omega)
  by_cases k3 : s.pc < (f.length : Int)
  case neg =>
    have e6 : (f.length : Int) ≤ s.pc := by omega
    repeat' (first | simp only [seval, evx, beq_self_eq_true, sb, ew, insA, encIns, ins_dec, ins_eta, w_dec, ev_dec, *] | simp (disch := omega) only [if_pos, if_neg] | refine R.seq ?_ | refine LCB.text ?_ | refine LCB.quiet rfl ?_ | refine R.anyX ?_ | refine R.block ?_ | refine LCB.skip ?_ | refine LCB.exit ?_ | refine LCB.ret ?_ | ((first | refine RetOk.val hcl ?_ | refine Weak.at hcl ?_); simp only [seval, evw, List.forall_mem_cons, List.forall_mem_map, List.forall_mem_append, List.not_mem_nil, sb, ew, insA, encIns, ins_dec, ins_eta, w_dec, ev_dec, *]) | ((first | refine LCB.cond (by simp only [seval, evx] <;> rfl) ?_ ?_ | refine wpG_split (by simp only [seval, evx] <;> rfl) ?_ ?_ | refine wxG_split (by simp only [seval, evx] <;> rfl) ?_ ?_) <;> (intro hc; try simp only [seval, nf] at hc)) | refine ACalls.inst ?_ | refine CallX.inst ?_ | (with_reducible refine And.intro ?_ ?_) | exact True.intro)
    first | refine ACalls.pure (h1.of) ?_ | refine CallP.pure (h1.of) rfl ?_ | refine CallX.pure (h1.of) ?_
    repeat' (first | simp only [seval, evx, beq_self_eq_true, sb, ew, insA, encIns, ins_dec, ins_eta, w_dec, ev_dec, *] | simp (disch := omega) only [if_pos, if_neg] | refine R.seq ?_ | refine LCB.text ?_ | refine LCB.quiet rfl ?_ | refine R.anyX ?_ | refine R.block ?_ | refine LCB.skip ?_ | refine LCB.exit ?_ | refine LCB.ret ?_ | ((first | refine RetOk.val hcl ?_ | refine Weak.at hcl ?_); simp only [seval, evw, List.forall_mem_cons, List.forall_mem_map, List.forall_mem_append, List.not_mem_nil, sb, ew, insA, encIns, ins_dec, ins_eta, w_dec, ev_dec, *]) | ((first | refine LCB.cond (by simp only [seval, evx] <;> rfl) ?_ ?_ | refine wpG_split (by simp only [seval, evx] <;> rfl) ?_ ?_ | refine wxG_split (by simp only [seval, evx] <;> rfl) ?_ ?_) <;> (intro hc; try simp only [seval, nf] at hc)) | refine ACalls.inst ?_ | refine CallX.inst ?_ | (with_reducible refine And.intro ?_ ?_) | exact True.intro)
  have e6 : ¬ (f.length : Int) ≤ s.pc := by omega
  by_cases k4 : s.heap.length ≤ 16
  case neg =>
    have e7 : (16 : Int) < (s.heap.length : Int) := by omega
    repeat' (first | simp only [seval, evx, beq_self_eq_true, sb, ew, insA, encIns, ins_dec, ins_eta, w_dec, ev_dec, *] | simp (disch := omega) only [if_pos, if_neg] | refine R.seq ?_ | refine LCB.text ?_ | refine LCB.quiet rfl ?_ | refine R.anyX ?_ | refine R.block ?_ | refine LCB.skip ?_ | refine LCB.exit ?_ | refine LCB.ret ?_ | ((first | refine RetOk.val hcl ?_ | refine Weak.at hcl ?_); simp only [seval, evw, List.forall_mem_cons, List.forall_mem_map, List.forall_mem_append, List.not_mem_nil, sb, ew, insA, encIns, ins_dec, ins_eta, w_dec, ev_dec, *]) | ((first | refine LCB.cond (by simp only [seval, evx] <;> rfl) ?_ ?_ | refine wpG_split (by simp only [seval, evx] <;> rfl) ?_ ?_ | refine wxG_split (by simp only [seval, evx] <;> rfl) ?_ ?_) <;> (intro hc; try simp only [seval, nf] at hc)) | refine ACalls.inst ?_ | refine CallX.inst ?_ | (with_reducible refine And.intro ?_ ?_) | exact True.intro)
    first | refine ACalls.pure (h1.of) ?_ | refine CallP.pure (h1.of) rfl ?_ | refine CallX.pure (h1.of) ?_
    repeat' (first | simp only [seval, evx, beq_self_eq_true, sb, ew, insA, encIns, ins_dec, ins_eta, w_dec, ev_dec, *] | simp (disch := omega) only [if_pos, if_neg] | refine R.seq ?_ | refine LCB.text ?_ | refine LCB.quiet rfl ?_ | refine R.anyX ?_ | refine R.block ?_ | refine LCB.skip ?_ | refine LCB.exit ?_ | refine LCB.ret ?_ | ((first | refine RetOk.val hcl ?_ | refine Weak.at hcl ?_); simp only [seval, evw, List.forall_mem_cons, List.forall_mem_map, List.forall_mem_append, List.not_mem_nil, sb, ew, insA, encIns, ins_dec, ins_eta, w_dec, ev_dec, *]) | ((first | refine LCB.cond (by simp only [seval, evx] <;> rfl) ?_ ?_ | refine wpG_split (by simp only [seval, evx] <;> rfl) ?_ ?_ | refine wxG_split (by simp only [seval, evx] <;> rfl) ?_ ?_) <;> (intro hc; try simp only [seval, nf] at hc)) | refine ACalls.inst ?_ | refine CallX.inst ?_ | (with_reducible refine And.intro ?_ ?_) | exact True.intro)
  have e7 : ¬ (16 : Int) < (s.heap.length : Int) := by omega
  by_cases k5 : s.asked < 0
  · have e5 : decide (0 ≤ s.asked) = false := decide_eq_false (by omega)
    repeat' (first | simp only [seval, evx, beq_self_eq_true, sb, ew, insA, encIns, ins_dec, ins_eta, w_dec, ev_dec, *] | simp (disch := omega) only [if_pos, if_neg] | refine R.seq ?_ | refine LCB.text ?_ | refine LCB.quiet rfl ?_ | refine R.anyX ?_ | refine R.block ?_ | refine LCB.skip ?_ | refine LCB.exit ?_ | refine LCB.ret ?_ | ((first | refine RetOk.val hcl ?_ | refine Weak.at hcl ?_); simp only [seval, evw, List.forall_mem_cons, List.forall_mem_map, List.forall_mem_append, List.not_mem_nil, sb, ew, insA, encIns, ins_dec, ins_eta, w_dec, ev_dec, *]) | ((first | refine LCB.cond (by simp only [seval, evx] <;> rfl) ?_ ?_ | refine wpG_split (by simp only [seval, evx] <;> rfl) ?_ ?_ | refine wxG_split (by simp only [seval, evx] <;> rfl) ?_ ?_) <;> (intro hc; try simp only [seval, nf] at hc)) | refine ACalls.inst ?_ | refine CallX.inst ?_ | (with_reducible refine And.intro ?_ ?_) | exact True.intro)
    first | refine ACalls.pure (h1.of) ?_ | refine CallP.pure (h1.of) rfl ?_ | refine CallX.pure (h1.of) ?_
    repeat' (first | simp only [seval, evx, beq_self_eq_true, sb, ew, insA, encIns, ins_dec, ins_eta, w_dec, ev_dec, *] | simp (disch := omega) only [if_pos, if_neg] | refine R.seq ?_ | refine LCB.text ?_ | refine LCB.quiet rfl ?_ | refine R.anyX ?_ | refine R.block ?_ | refine LCB.skip ?_ | refine LCB.exit ?_ | refine LCB.ret ?_ | ((first | refine RetOk.val hcl ?_ | refine Weak.at hcl ?_); simp only [seval, evw, List.forall_mem_cons, List.forall_mem_map, List.forall_mem_append, List.not_mem_nil, sb, ew, insA, encIns, ins_dec, ins_eta, w_dec, ev_dec, *]) | ((first | refine LCB.cond (by simp only [seval, evx] <;> rfl) ?_ ?_ | refine wpG_split (by simp only [seval, evx] <;> rfl) ?_ ?_ | refine wxG_split (by simp only [seval, evx] <;> rfl) ?_ ?_) <;> (intro hc; try simp only [seval, nf] at hc)) | refine ACalls.inst ?_ | refine CallX.inst ?_ | (with_reducible refine And.intro ?_ ?_) | exact True.intro)
  have e5 : decide (0 ≤ s.asked) = true := decide_eq_true (by omega)
  generalize hB : s.L.all okW = B
  replace hB := Hold.mk hB
  replace hL := Hold.mk hL
  repeat' (first | simp only [seval, evx, beq_self_eq_true, sb, ew, insA, encIns, ins_dec, ins_eta, w_dec, ev_dec, *] | simp (disch := omega) only [if_pos, if_neg] | refine R.seq ?_ | refine LCB.text ?_ | refine LCB.quiet rfl ?_ | refine R.anyX ?_ | refine R.block ?_ | refine LCB.skip ?_ | refine LCB.exit ?_ | refine LCB.ret ?_ | ((first | refine RetOk.val hcl ?_ | refine Weak.at hcl ?_); simp only [seval, evw, List.forall_mem_cons, List.forall_mem_map, List.forall_mem_append, List.not_mem_nil, sb, ew, insA, encIns, ins_dec, ins_eta, w_dec, ev_dec, *]) | ((first | refine LCB.cond (by simp only [seval, evx] <;> rfl) ?_ ?_ | refine wpG_split (by simp only [seval, evx] <;> rfl) ?_ ?_ | refine wxG_split (by simp only [seval, evx] <;> rfl) ?_ ?_) <;> (intro hc; try simp only [seval, nf] at hc)) | refine ACalls.inst ?_ | refine CallX.inst ?_ | (with_reducible refine And.intro ?_ ?_) | exact True.intro)
  first | refine ACalls.pure (h1.of) ?_ | refine CallP.pure (h1.of) rfl ?_ | refine CallX.pure (h1.of) ?_
  repeat' (first | simp only [seval, evx, beq_self_eq_true, sb, ew, insA, encIns, ins_dec, ins_eta, w_dec, ev_dec, *] | simp (disch := omega) only [if_pos, if_neg] | refine R.seq ?_ | refine LCB.text ?_ | refine LCB.quiet rfl ?_ | refine R.anyX ?_ | refine R.block ?_ | refine LCB.skip ?_ | refine LCB.exit ?_ | refine LCB.ret ?_ | ((first | refine RetOk.val hcl ?_ | refine Weak.at hcl ?_); simp only [seval, evw, List.forall_mem_cons, List.forall_mem_map, List.forall_mem_append, List.not_mem_nil, sb, ew, insA, encIns, ins_dec, ins_eta, w_dec, ev_dec, *]) | ((first | refine LCB.cond (by simp only [seval, evx] <;> rfl) ?_ ?_ | refine wpG_split (by simp only [seval, evx] <;> rfl) ?_ ?_ | refine wxG_split (by simp only [seval, evx] <;> rfl) ?_ ?_) <;> (intro hc; try simp only [seval, nf] at hc)) | refine ACalls.inst ?_ | refine CallX.inst ?_ | (with_reducible refine And.intro ?_ ?_) | exact True.intro)
  refine R.loop (S := Nat) ⟨fun i => [(3, .ptr H.length 1 0 0), (5, .int .i64 (i : Int))], fun i => H ++ [.vec 4 [[.list (s.L.map encW), .list (s.heap.map encI), .int .i64 s.pc, .int .i64 s.asked]]], fun i => i ≤ 24 ∧ (s.L.drop i).all okW = B, fun i => 24 - i⟩ 0 ⟨Nat.zero_le _, hB.of⟩ (Weak.at hcl ?_) ?_
  · simp only [seval, evw, List.forall_mem_cons, List.forall_mem_map, List.forall_mem_append, List.not_mem_nil, sb, ew, insA, encIns, ins_dec, ins_eta, w_dec, ev_dec, *]
  rintro i ⟨hi, hq⟩
  simp only at hi hq ⊢
  by_cases hlt : i < 24
  · have hll := hL.of
    have d1 : (i : Int) < 24 := by omega
    have d2 : IntKind.i64.wrap ((i : Int) + 1) = ((i + 1 : Nat) : Int) := by rw [IntKind.wrap_i64]; omega
    have hg := getD_encW (l := s.L) (j := i) (by omega)
    rw [drop_W (by omega), List.all_cons] at hq
    generalize s.L.getD i noW = w at *
    obtain ⟨wi, wv⟩ := w
    clear hll
    cases wi
    · by_cases hv : wv = 0
      · subst hv
        have hq2 : (s.L.drop (i + 1)).all okW = B := by simpa [okW] using hq
        replace hq2 := Hold.mk hq2
        replace hq := Hold.mk hq
        repeat' (first | simp only [seval, evx, beq_self_eq_true, sb, ew, insA, encIns, ins_dec, ins_eta, w_dec, ev_dec, *] | simp (disch := omega) only [if_pos, if_neg] | refine R.seq ?_ | refine LCB.text ?_ | refine LCB.quiet rfl ?_ | refine R.anyX ?_ | refine R.block ?_ | refine LCB.skip ?_ | refine LCB.exit ?_ | refine LCB.ret ?_ | ((first | refine RetOk.val hcl ?_ | refine Weak.at hcl ?_); simp only [seval, evw, List.forall_mem_cons, List.forall_mem_map, List.forall_mem_append, List.not_mem_nil, sb, ew, insA, encIns, ins_dec, ins_eta, w_dec, ev_dec, *]) | ((first | refine LCB.cond (by simp only [seval, evx] <;> rfl) ?_ ?_ | refine wpG_split (by simp only [seval, evx] <;> rfl) ?_ ?_ | refine wxG_split (by simp only [seval, evx] <;> rfl) ?_ ?_) <;> (intro hc; try simp only [seval, nf] at hc)) | refine ACalls.inst ?_ | refine CallX.inst ?_ | (with_reducible refine And.intro ?_ ?_) | exact True.intro)
        refine ⟨i + 1, ⟨hlt, hq2.of⟩, by simp only; omega, Weak.at hcl ?_⟩
        simp only [seval, evw, List.forall_mem_cons, List.forall_mem_map, List.forall_mem_append, List.not_mem_nil, sb, ew, insA, encIns, ins_dec, ins_eta, w_dec, ev_dec, *]
      · have hBf : B = false := by rw [← hq]; simp [okW, hv]
        subst hBf
        replace hq := Hold.mk hq
        repeat' (first | simp only [seval, evx, beq_self_eq_true, sb, ew, insA, encIns, ins_dec, ins_eta, w_dec, ev_dec, *] | simp (disch := omega) only [if_pos, if_neg] | refine R.seq ?_ | refine LCB.text ?_ | refine LCB.quiet rfl ?_ | refine R.anyX ?_ | refine R.block ?_ | refine LCB.skip ?_ | refine LCB.exit ?_ | refine LCB.ret ?_ | ((first | refine RetOk.val hcl ?_ | refine Weak.at hcl ?_); simp only [seval, evw, List.forall_mem_cons, List.forall_mem_map, List.forall_mem_append, List.not_mem_nil, sb, ew, insA, encIns, ins_dec, ins_eta, w_dec, ev_dec, *]) | ((first | refine LCB.cond (by simp only [seval, evx] <;> rfl) ?_ ?_ | refine wpG_split (by simp only [seval, evx] <;> rfl) ?_ ?_ | refine wxG_split (by simp only [seval, evx] <;> rfl) ?_ ?_) <;> (intro hc; try simp only [seval, nf] at hc)) | refine ACalls.inst ?_ | refine CallX.inst ?_ | (with_reducible refine And.intro ?_ ?_) | exact True.intro)
    · have hq2 : (s.L.drop (i + 1)).all okW = B := by simpa [okW] using hq
      replace hq2 := Hold.mk hq2
      replace hq := Hold.mk hq
      repeat' (first | simp only [seval, evx, beq_self_eq_true, sb, ew, insA, encIns, ins_dec, ins_eta, w_dec, ev_dec, *] | simp (disch := omega) only [if_pos, if_neg] | refine R.seq ?_ | refine LCB.text ?_ | refine LCB.quiet rfl ?_ | refine R.anyX ?_ | refine R.block ?_ | refine LCB.skip ?_ | refine LCB.exit ?_ | refine LCB.ret ?_ | ((first | refine RetOk.val hcl ?_ | refine Weak.at hcl ?_); simp only [seval, evw, List.forall_mem_cons, List.forall_mem_map, List.forall_mem_append, List.not_mem_nil, sb, ew, insA, encIns, ins_dec, ins_eta, w_dec, ev_dec, *]) | ((first | refine LCB.cond (by simp only [seval, evx] <;> rfl) ?_ ?_ | refine wpG_split (by simp only [seval, evx] <;> rfl) ?_ ?_ | refine wxG_split (by simp only [seval, evx] <;> rfl) ?_ ?_) <;> (intro hc; try simp only [seval, nf] at hc)) | refine ACalls.inst ?_ | refine CallX.inst ?_ | (with_reducible refine And.intro ?_ ?_) | exact True.intro)
      refine ⟨i + 1, ⟨hlt, hq2.of⟩, by simp only; omega, Weak.at hcl ?_⟩
      simp only [seval, evw, List.forall_mem_cons, List.forall_mem_map, List.forall_mem_append, List.not_mem_nil, sb, ew, insA, encIns, ins_dec, ins_eta, w_dec, ev_dec, *]
  · have hie : i = 24 := by omega
    subst hie
    have hBt : B = true := by rw [← hq, List.drop_of_length_le (by rw [hL.of]; omega)]; rfl
    subst hBt
    replace hq := Hold.mk hq
    repeat' (first | simp only [seval, evx, beq_self_eq_true, sb, ew, insA, encIns, ins_dec, ins_eta, w_dec, ev_dec, *] | simp (disch := omega) only [if_pos, if_neg] | refine R.seq ?_ | refine LCB.text ?_ | refine LCB.quiet rfl ?_ | refine R.anyX ?_ | refine R.block ?_ | refine LCB.skip ?_ | refine LCB.exit ?_ | refine LCB.ret ?_ | ((first | refine RetOk.val hcl ?_ | refine Weak.at hcl ?_); simp only [seval, evw, List.forall_mem_cons, List.forall_mem_map, List.forall_mem_append, List.not_mem_nil, sb, ew, insA, encIns, ins_dec, ins_eta, w_dec, ev_dec, *]) | ((first | refine LCB.cond (by simp only [seval, evx] <;> rfl) ?_ ?_ | refine wpG_split (by simp only [seval, evx] <;> rfl) ?_ ?_ | refine wxG_split (by simp only [seval, evx] <;> rfl) ?_ ?_) <;> (intro hc; try simp only [seval, nf] at hc)) | refine ACalls.inst ?_ | refine CallX.inst ?_ | (with_reducible refine And.intro ?_ ?_) | exact True.intro)
theorem step_own_ok (s : St) (hL : s.L.length = 24) (hh : s.heap.length ≤ 1000) : Pure Tryd.prog 41 [stA s] (stA s) := by
  intro H
  refine ACalls.go step_own.low (by simp) fun hcl => ?_
  have hwl : (wc s.L).length = 48 := by rw [wc_len, hL]
  rw [stA_eq]
  have rk : rowsOk 1 (s.heap.map encI) = true := rk_map fun x _ => ⟨rfl, rfl⟩
  have b1 : s.heap.length * 8 ≤ 140737488355328 := by omega
  have b2 : s.heap.length ≤ 9223372036854775807 := by omega
  replace hL := Hold.mk hL
  repeat' (first | simp only [seval, evx, beq_self_eq_true, sb, ew, insA, encIns, ins_dec, ins_eta, w_dec, ev_dec, *] | simp (disch := omega) only [if_pos, if_neg] | refine R.seq ?_ | refine LCB.text ?_ | refine LCB.quiet rfl ?_ | refine R.anyX ?_ | refine R.block ?_ | refine LCB.skip ?_ | refine LCB.exit ?_ | refine LCB.ret ?_ | ((first | refine RetOk.val hcl ?_ | refine Weak.at hcl ?_); simp only [seval, evw, List.forall_mem_cons, List.forall_mem_map, List.forall_mem_append, List.not_mem_nil, sb, ew, insA, encIns, ins_dec, ins_eta, w_dec, ev_dec, *]) | ((first | refine LCB.cond (by simp only [seval, evx] <;> rfl) ?_ ?_ | refine wpG_split (by simp only [seval, evx] <;> rfl) ?_ ?_ | refine wxG_split (by simp only [seval, evx] <;> rfl) ?_ ?_) <;> (intro hc; try simp only [seval, nf] at hc)) | refine ACalls.inst ?_ | refine CallX.inst ?_ | (with_reducible refine And.intro ?_ ?_) | exact True.intro)
set_option maxHeartbeats 1000000 in
theorem law07_As_ok (s : St) (hL : s.L.length = 24) : Pure Tryd.prog 19 [stA s] (rsA s) := by
  intro H
  refine ACalls.go joinerylaw07_As.low (by simp) fun hcl => ?_
  have hwl : (wc s.L).length = 48 := by rw [wc_len, hL]
  rw [stA_eq, rsA_eq]
  replace hL := Hold.mk hL
  repeat' (first | simp only [seval, evx, beq_self_eq_true, sb, ew, insA, encIns, ins_dec, ins_eta, w_dec, ev_dec, *] | simp (disch := omega) only [if_pos, if_neg] | refine R.seq ?_ | refine LCB.text ?_ | refine LCB.quiet rfl ?_ | refine R.anyX ?_ | refine R.block ?_ | refine LCB.skip ?_ | refine LCB.exit ?_ | refine LCB.ret ?_ | ((first | refine RetOk.val hcl ?_ | refine Weak.at hcl ?_); simp only [seval, evw, List.forall_mem_cons, List.forall_mem_map, List.forall_mem_append, List.not_mem_nil, sb, ew, insA, encIns, ins_dec, ins_eta, w_dec, ev_dec, *]) | ((first | refine LCB.cond (by simp only [seval, evx] <;> rfl) ?_ ?_ | refine wpG_split (by simp only [seval, evx] <;> rfl) ?_ ?_ | refine wxG_split (by simp only [seval, evx] <;> rfl) ?_ ?_) <;> (intro hc; try simp only [seval, nf] at hc)) | refine ACalls.inst ?_ | refine CallX.inst ?_ | (with_reducible refine And.intro ?_ ?_) | exact True.intro)
  refine R.loop (S := Nat × List W) ⟨fun y => [(1, .ptr H.length 1 0 0), (2, .ptr (H.length + 1) 1 0 0), (3, .ptr (H.length + 2) 1 0 0), (4, .int .i64 (y.1 : Int))],
    fun y => H ++ [.vec 51 [wc s.L ++ [.list (s.heap.map encI), .int .i64 s.pc, .int .i64 s.asked]], .vec 4 [[.imm (.slice none 0 0), .imm (.slice none 0 0), .int .i64 0, .int .i64 0]], .vec 4 [[.sl 2 (H.length + 3) y.2.length 0 y.2.length, .list (s.heap.map encI), .int .i64 s.pc, .int .i64 s.asked]], .vec 2 (y.2.map encW)],
    fun y => y.1 ≤ 24 ∧ y.2 = s.L.take y.1 ∧ y.2.length = y.1, fun y => 24 - y.1⟩ (0, []) ⟨Nat.zero_le _, rfl, rfl⟩ ((Weak.growRow 2 0 2 (by omega) rfl rfl).trans (Weak.at hcl ?_)) ?_
  · simp only [seval, evw, List.forall_mem_cons, List.forall_mem_map, List.forall_mem_append, List.not_mem_nil, sb, ew, insA, encIns, ins_dec, ins_eta, w_dec, ev_dec, *]
  rintro ⟨i, out⟩ ⟨hi, hout, hol⟩
  simp only at hi hout hol ⊢
  by_cases hlt : i < 24
  · have hll := hL.of
    have d1 : (i : Int) < 24 := by omega
    have d2 : IntKind.i64.wrap ((i : Int) + 1) = ((i + 1 : Nat) : Int) := by rw [IntKind.wrap_i64]; omega
    have hg := wr_pair (L := s.L) (r := [.list (s.heap.map encI), .int .i64 s.pc, .int .i64 s.asked]) (i := i) (by omega)
    have d3 : i * 2 + 2 ≤ 51 := by omega
    have b1 : (out.length + 1) * 16 ≤ 140737488355328 := by omega
    have b2 : out.length ≤ 9223372036854775806 := by omega
    have hnx : out ++ [s.L.getD i noW] = s.L.take (i + 1) := by
      rw [hout, List.take_succ_eq_append_getElem (by omega)]
      simp [List.getD, show i < s.L.length by omega]
    generalize s.L.getD i noW = w at *
    simp only [encW_def] at hg
    clear hll
    replace hout := Hold.mk hout
    replace hol := Hold.mk hol
    replace hnx := Hold.mk hnx
    repeat' (first | simp only [seval, evx, beq_self_eq_true, sb, ew, insA, encIns, ins_dec, ins_eta, w_dec, ev_dec, *] | simp (disch := omega) only [if_pos, if_neg] | refine R.seq ?_ | refine LCB.text ?_ | refine LCB.quiet rfl ?_ | refine R.anyX ?_ | refine R.block ?_ | refine LCB.skip ?_ | refine LCB.exit ?_ | refine LCB.ret ?_ | ((first | refine RetOk.val hcl ?_ | refine Weak.at hcl ?_); simp only [seval, evw, List.forall_mem_cons, List.forall_mem_map, List.forall_mem_append, List.not_mem_nil, sb, ew, insA, encIns, ins_dec, ins_eta, w_dec, ev_dec, *]) | ((first | refine LCB.cond (by simp only [seval, evx] <;> rfl) ?_ ?_ | refine wpG_split (by simp only [seval, evx] <;> rfl) ?_ ?_ | refine wxG_split (by simp only [seval, evx] <;> rfl) ?_ ?_) <;> (intro hc; try simp only [seval, nf] at hc)) | refine ACalls.inst ?_ | refine CallX.inst ?_ | (with_reducible refine And.intro ?_ ?_) | exact True.intro)
    refine ⟨(i + 1, out ++ [w]), ⟨hlt, hnx.of, by simp only [List.length_append, List.length_cons, List.length_nil, hol.of]⟩, by simp only; omega, Weak.at hcl ?_⟩
    simp only [seval, evw, List.forall_mem_cons, List.forall_mem_map, List.forall_mem_append, List.not_mem_nil, sb, ew, insA, encIns, ins_dec, ins_eta, w_dec, ev_dec, *]
  · have hie : i = 24 := by omega
    subst hie
    have hx : out = s.L := by rw [hout, List.take_of_length_le (by rw [hL.of]; omega)]
    subst hx
    replace hout := Hold.mk hout
    replace hol := Hold.mk hol
    repeat' (first | simp only [seval, evx, beq_self_eq_true, sb, ew, insA, encIns, ins_dec, ins_eta, w_dec, ev_dec, *] | simp (disch := omega) only [if_pos, if_neg] | refine R.seq ?_ | refine LCB.text ?_ | refine LCB.quiet rfl ?_ | refine R.anyX ?_ | refine R.block ?_ | refine LCB.skip ?_ | refine LCB.exit ?_ | refine LCB.ret ?_ | ((first | refine RetOk.val hcl ?_ | refine Weak.at hcl ?_); simp only [seval, evw, List.forall_mem_cons, List.forall_mem_map, List.forall_mem_append, List.not_mem_nil, sb, ew, insA, encIns, ins_dec, ins_eta, w_dec, ev_dec, *]) | ((first | refine LCB.cond (by simp only [seval, evx] <;> rfl) ?_ ?_ | refine wpG_split (by simp only [seval, evx] <;> rfl) ?_ ?_ | refine wxG_split (by simp only [seval, evx] <;> rfl) ?_ ?_) <;> (intro hc; try simp only [seval, nf] at hc)) | refine ACalls.inst ?_ | refine CallX.inst ?_ | (with_reducible refine And.intro ?_ ?_) | exact True.intro)
end Go.Proofs.YtbkbehkjndmabaaDoor

/-
  num: what comes of an operation.
-/
namespace Go.Proofs.YtbkbehkjndmabaaDoor
open Go.RowKit
set_option linter.unusedVariables false
set_option linter.unusedSimpArgs false

def flagI (b : Bool) : Int := if b then 1 else 0
/-- What comes of an operation, and how. -/
def numDo (op a b : Int) : Int × Int :=
  if op = 4 then (IntKind.i64.wrap (a + b), 0)
  else if op = 5 then (IntKind.i64.wrap (a - b), 0)
  else if op = 6 then (IntKind.i64.wrap (a * b), 0)
  else if op = 7 then (if b = 0 then (0, 3) else (IntKind.i64.wrap (a.tdiv b), 0))
  else if op = 8 then (bits .and .i64 a b, 0)
  else if op = 9 then (bits .or .i64 a b, 0)
  else if op = 10 then (bits .xor .i64 a b, 0)
  else if op = 11 then (flagI (decide (a < b)), 0)
  else if op = 12 then (flagI (decide (a = b)), 0)
  else (0, 2)
def nopR (q : Int × Int) : AV := .tup [.int .i64 q.1, .int .i64 q.2]

theorem bv_split {n : Nat} (x y : BitVec n) : (x ||| y).toNat = (x ^^^ y).toNat + (x &&& y).toNat := by
  have h0 : (x ^^^ y) &&& (x &&& y) = 0#n := by
    ext i hi
    simp
    cases x[i] <;> cases y[i] <;> simp
  have h1 : (x ^^^ y) ||| (x &&& y) = x ||| y := by
    ext i hi
    simp
    cases x[i] <;> cases y[i] <;> simp
  have h2 := BitVec.add_eq_or_of_and_eq_zero _ _ h0
  rw [h1] at h2
  have h3 := congrArg BitVec.toNat h2
  rw [BitVec.toNat_add] at h3
  have hx : (x ^^^ y).toNat + (x &&& y).toNat < 2 ^ n := by
    have := BitVec.toNat_add_of_and_eq_zero h0
    rw [h2] at this
    rw [← this]
    exact (x ||| y).isLt
  rw [Nat.mod_eq_of_lt hx] at h3
  exact h3.symm
theorem bits_xor (a b : Int) : IntKind.i64.wrap (bits .or .i64 a b - bits .and .i64 a b) = bits .xor .i64 a b := by
  have h := bv_split (BitVec.ofInt IntKind.i64.bits a) (BitVec.ofInt IntKind.i64.bits b)
  show IntKind.i64.wrap (IntKind.i64.wrap _ - IntKind.i64.wrap _) = IntKind.i64.wrap _
  simp only
  generalize ((BitVec.ofInt IntKind.i64.bits a ||| BitVec.ofInt IntKind.i64.bits b).toNat) = u at *
  generalize ((BitVec.ofInt IntKind.i64.bits a &&& BitVec.ofInt IntKind.i64.bits b).toNat) = v at *
  generalize ((BitVec.ofInt IntKind.i64.bits a ^^^ BitVec.ofInt IntKind.i64.bits b).toNat) = w at *
  simp only [IntKind.wrap_i64]
  omega

theorem tdiv_neg1 (a : Int) : a.tdiv (-1) = -a := by simp
theorem num_flag_ok (b : Bool) : Pure Tryd.prog 87 [.bool b] (.int .i64 (flagI b)) := by
  intro H
  refine ACalls.go num_flag.low (by simp) fun hcl => ?_
  cases b
  all_goals
    repeat' (first | simp only [seval, evo, beq_self_eq_true, sb, *] | simp (disch := omega) only [if_pos, if_neg] | refine R.seq ?_ | refine LCB.text ?_ | refine LCB.quiet rfl ?_ | refine R.calls rfl ?_ | refine R.block ?_ | refine LCB.skip ?_ | refine LCB.exit ?_ | refine LCB.ret ?_ | ((first | refine RetOk.val hcl ?_ | refine Weak.at hcl ?_); simp only [seval, evw, List.forall_mem_cons, List.forall_mem_map, List.forall_mem_append, List.not_mem_nil, sb, *]) | ((first | refine LCB.cond (by simp only [seval, evo] <;> rfl) ?_ ?_ | refine wpG_split (by simp only [seval, evo] <;> rfl) ?_ ?_ | refine wqG_split (by simp only [seval, evo] <;> rfl) ?_ ?_) <;> (intro hc; try simp only [seval, nf] at hc)) | refine ACalls.inst ?_ | refine CallP.inst rfl ?_)
    rfl
theorem num_deed1_ok (a b : Int) : Pure Tryd.prog 79 [.int .i64 a, .int .i64 b] (.int .i64 (IntKind.i64.wrap (a + b))) := by
  intro H
  refine ACalls.go num_deeds_1.low (by simp) fun hcl => ?_
  repeat' (first | simp only [seval, evo, beq_self_eq_true, sb, *] | simp (disch := omega) only [if_pos, if_neg] | refine R.seq ?_ | refine LCB.text ?_ | refine LCB.quiet rfl ?_ | refine R.calls rfl ?_ | refine R.block ?_ | refine LCB.skip ?_ | refine LCB.exit ?_ | refine LCB.ret ?_ | ((first | refine RetOk.val hcl ?_ | refine Weak.at hcl ?_); simp only [seval, evw, List.forall_mem_cons, List.forall_mem_map, List.forall_mem_append, List.not_mem_nil, sb, *]) | ((first | refine LCB.cond (by simp only [seval, evo] <;> rfl) ?_ ?_ | refine wpG_split (by simp only [seval, evo] <;> rfl) ?_ ?_ | refine wqG_split (by simp only [seval, evo] <;> rfl) ?_ ?_) <;> (intro hc; try simp only [seval, nf] at hc)) | refine ACalls.inst ?_ | refine CallP.inst rfl ?_)
theorem num_deed2_ok (a b : Int) : Pure Tryd.prog 80 [.int .i64 a, .int .i64 b] (.int .i64 (IntKind.i64.wrap (a - b))) := by
  intro H
  refine ACalls.go num_deeds_2.low (by simp) fun hcl => ?_
  repeat' (first | simp only [seval, evo, beq_self_eq_true, sb, *] | simp (disch := omega) only [if_pos, if_neg] | refine R.seq ?_ | refine LCB.text ?_ | refine LCB.quiet rfl ?_ | refine R.calls rfl ?_ | refine R.block ?_ | refine LCB.skip ?_ | refine LCB.exit ?_ | refine LCB.ret ?_ | ((first | refine RetOk.val hcl ?_ | refine Weak.at hcl ?_); simp only [seval, evw, List.forall_mem_cons, List.forall_mem_map, List.forall_mem_append, List.not_mem_nil, sb, *]) | ((first | refine LCB.cond (by simp only [seval, evo] <;> rfl) ?_ ?_ | refine wpG_split (by simp only [seval, evo] <;> rfl) ?_ ?_ | refine wqG_split (by simp only [seval, evo] <;> rfl) ?_ ?_) <;> (intro hc; try simp only [seval, nf] at hc)) | refine ACalls.inst ?_ | refine CallP.inst rfl ?_)
theorem num_deed3_ok (a b : Int) : Pure Tryd.prog 81 [.int .i64 a, .int .i64 b] (.int .i64 (IntKind.i64.wrap (a * b))) := by
  intro H
  refine ACalls.go num_deeds_3.low (by simp) fun hcl => ?_
  repeat' (first | simp only [seval, evo, beq_self_eq_true, sb, *] | simp (disch := omega) only [if_pos, if_neg] | refine R.seq ?_ | refine LCB.text ?_ | refine LCB.quiet rfl ?_ | refine R.calls rfl ?_ | refine R.block ?_ | refine LCB.skip ?_ | refine LCB.exit ?_ | refine LCB.ret ?_ | ((first | refine RetOk.val hcl ?_ | refine Weak.at hcl ?_); simp only [seval, evw, List.forall_mem_cons, List.forall_mem_map, List.forall_mem_append, List.not_mem_nil, sb, *]) | ((first | refine LCB.cond (by simp only [seval, evo] <;> rfl) ?_ ?_ | refine wpG_split (by simp only [seval, evo] <;> rfl) ?_ ?_ | refine wqG_split (by simp only [seval, evo] <;> rfl) ?_ ?_) <;> (intro hc; try simp only [seval, nf] at hc)) | refine ACalls.inst ?_ | refine CallP.inst rfl ?_)
theorem num_deed5_ok (a b : Int) : Pure Tryd.prog 83 [.int .i64 a, .int .i64 b] (.int .i64 (bits .and .i64 a b)) := by
  intro H
  refine ACalls.go num_deeds_5.low (by simp) fun hcl => ?_
  repeat' (first | simp only [seval, evo, beq_self_eq_true, sb, *] | simp (disch := omega) only [if_pos, if_neg] | refine R.seq ?_ | refine LCB.text ?_ | refine LCB.quiet rfl ?_ | refine R.calls rfl ?_ | refine R.block ?_ | refine LCB.skip ?_ | refine LCB.exit ?_ | refine LCB.ret ?_ | ((first | refine RetOk.val hcl ?_ | refine Weak.at hcl ?_); simp only [seval, evw, List.forall_mem_cons, List.forall_mem_map, List.forall_mem_append, List.not_mem_nil, sb, *]) | ((first | refine LCB.cond (by simp only [seval, evo] <;> rfl) ?_ ?_ | refine wpG_split (by simp only [seval, evo] <;> rfl) ?_ ?_ | refine wqG_split (by simp only [seval, evo] <;> rfl) ?_ ?_) <;> (intro hc; try simp only [seval, nf] at hc)) | refine ACalls.inst ?_ | refine CallP.inst rfl ?_)
theorem num_deed6_ok (a b : Int) : Pure Tryd.prog 84 [.int .i64 a, .int .i64 b] (.int .i64 (bits .or .i64 a b)) := by
  intro H
  refine ACalls.go num_deeds_6.low (by simp) fun hcl => ?_
  repeat' (first | simp only [seval, evo, beq_self_eq_true, sb, *] | simp (disch := omega) only [if_pos, if_neg] | refine R.seq ?_ | refine LCB.text ?_ | refine LCB.quiet rfl ?_ | refine R.calls rfl ?_ | refine R.block ?_ | refine LCB.skip ?_ | refine LCB.exit ?_ | refine LCB.ret ?_ | ((first | refine RetOk.val hcl ?_ | refine Weak.at hcl ?_); simp only [seval, evw, List.forall_mem_cons, List.forall_mem_map, List.forall_mem_append, List.not_mem_nil, sb, *]) | ((first | refine LCB.cond (by simp only [seval, evo] <;> rfl) ?_ ?_ | refine wpG_split (by simp only [seval, evo] <;> rfl) ?_ ?_ | refine wqG_split (by simp only [seval, evo] <;> rfl) ?_ ?_) <;> (intro hc; try simp only [seval, nf] at hc)) | refine ACalls.inst ?_ | refine CallP.inst rfl ?_)
theorem num_deed7_ok (a b : Int) : Pure Tryd.prog 85 [.int .i64 a, .int .i64 b] (.int .i64 (bits .xor .i64 a b)) := by
  intro H
  refine ACalls.go num_deeds_7.low (by simp) fun hcl => ?_
  repeat' (first | simp only [seval, evo, beq_self_eq_true, sb, *] | simp (disch := omega) only [if_pos, if_neg] | refine R.seq ?_ | refine LCB.text ?_ | refine LCB.quiet rfl ?_ | refine R.calls rfl ?_ | refine R.block ?_ | refine LCB.skip ?_ | refine LCB.exit ?_ | refine LCB.ret ?_ | ((first | refine RetOk.val hcl ?_ | refine Weak.at hcl ?_); simp only [seval, evw, List.forall_mem_cons, List.forall_mem_map, List.forall_mem_append, List.not_mem_nil, sb, *]) | ((first | refine LCB.cond (by simp only [seval, evo] <;> rfl) ?_ ?_ | refine wpG_split (by simp only [seval, evo] <;> rfl) ?_ ?_ | refine wqG_split (by simp only [seval, evo] <;> rfl) ?_ ?_) <;> (intro hc; try simp only [seval, nf] at hc)) | refine ACalls.inst ?_ | refine CallP.inst rfl ?_)
theorem num_deed8_ok (a b : Int) : Pure Tryd.prog 86 [.int .i64 a, .int .i64 b] (.int .i64 (flagI (decide (a < b)))) := by
  intro H
  refine ACalls.go num_deeds_8.low (by simp) fun hcl => ?_
  have h1 := Hold.mk (num_flag_ok (decide (a < b)))
  repeat' (first | simp only [seval, evo, beq_self_eq_true, sb, *] | simp (disch := omega) only [if_pos, if_neg] | refine R.seq ?_ | refine LCB.text ?_ | refine LCB.quiet rfl ?_ | refine R.calls rfl ?_ | refine R.block ?_ | refine LCB.skip ?_ | refine LCB.exit ?_ | refine LCB.ret ?_ | ((first | refine RetOk.val hcl ?_ | refine Weak.at hcl ?_); simp only [seval, evw, List.forall_mem_cons, List.forall_mem_map, List.forall_mem_append, List.not_mem_nil, sb, *]) | ((first | refine LCB.cond (by simp only [seval, evo] <;> rfl) ?_ ?_ | refine wpG_split (by simp only [seval, evo] <;> rfl) ?_ ?_ | refine wqG_split (by simp only [seval, evo] <;> rfl) ?_ ?_) <;> (intro hc; try simp only [seval, nf] at hc)) | refine ACalls.inst ?_ | refine CallP.inst rfl ?_)
  first | refine ACalls.pure (h1.of) ?_ | refine CallP.pure (h1.of) rfl ?_ | refine CallX.pure (h1.of) ?_
  repeat' (first | simp only [seval, evo, beq_self_eq_true, sb, *] | simp (disch := omega) only [if_pos, if_neg] | refine R.seq ?_ | refine LCB.text ?_ | refine LCB.quiet rfl ?_ | refine R.calls rfl ?_ | refine R.block ?_ | refine LCB.skip ?_ | refine LCB.exit ?_ | refine LCB.ret ?_ | ((first | refine RetOk.val hcl ?_ | refine Weak.at hcl ?_); simp only [seval, evw, List.forall_mem_cons, List.forall_mem_map, List.forall_mem_append, List.not_mem_nil, sb, *]) | ((first | refine LCB.cond (by simp only [seval, evo] <;> rfl) ?_ ?_ | refine wpG_split (by simp only [seval, evo] <;> rfl) ?_ ?_ | refine wqG_split (by simp only [seval, evo] <;> rfl) ?_ ?_) <;> (intro hc; try simp only [seval, nf] at hc)) | refine ACalls.inst ?_ | refine CallP.inst rfl ?_)
theorem num_deed9_ok (a b : Int) : Pure Tryd.prog 88 [.int .i64 a, .int .i64 b] (.int .i64 (flagI (decide (a = b)))) := by
  intro H
  refine ACalls.go num_deeds_9.low (by simp) fun hcl => ?_
  have h1 := Hold.mk (num_flag_ok (decide (a = b)))
  repeat' (first | simp only [seval, evo, beq_self_eq_true, sb, *] | simp (disch := omega) only [if_pos, if_neg] | refine R.seq ?_ | refine LCB.text ?_ | refine LCB.quiet rfl ?_ | refine R.calls rfl ?_ | refine R.block ?_ | refine LCB.skip ?_ | refine LCB.exit ?_ | refine LCB.ret ?_ | ((first | refine RetOk.val hcl ?_ | refine Weak.at hcl ?_); simp only [seval, evw, List.forall_mem_cons, List.forall_mem_map, List.forall_mem_append, List.not_mem_nil, sb, *]) | ((first | refine LCB.cond (by simp only [seval, evo] <;> rfl) ?_ ?_ | refine wpG_split (by simp only [seval, evo] <;> rfl) ?_ ?_ | refine wqG_split (by simp only [seval, evo] <;> rfl) ?_ ?_) <;> (intro hc; try simp only [seval, nf] at hc)) | refine ACalls.inst ?_ | refine CallP.inst rfl ?_)
  first | refine ACalls.pure (h1.of) ?_ | refine CallP.pure (h1.of) rfl ?_ | refine CallX.pure (h1.of) ?_
  repeat' (first | simp only [seval, evo, beq_self_eq_true, sb, *] | simp (disch := omega) only [if_pos, if_neg] | refine R.seq ?_ | refine LCB.text ?_ | refine LCB.quiet rfl ?_ | refine R.calls rfl ?_ | refine R.block ?_ | refine LCB.skip ?_ | refine LCB.exit ?_ | refine LCB.ret ?_ | ((first | refine RetOk.val hcl ?_ | refine Weak.at hcl ?_); simp only [seval, evw, List.forall_mem_cons, List.forall_mem_map, List.forall_mem_append, List.not_mem_nil, sb, *]) | ((first | refine LCB.cond (by simp only [seval, evo] <;> rfl) ?_ ?_ | refine wpG_split (by simp only [seval, evo] <;> rfl) ?_ ?_ | refine wqG_split (by simp only [seval, evo] <;> rfl) ?_ ?_) <;> (intro hc; try simp only [seval, nf] at hc)) | refine ACalls.inst ?_ | refine CallP.inst rfl ?_)
theorem num_deed4_ok (a b : Int) (hb : ¬ b = 0) : Pure Tryd.prog 82 [.int .i64 a, .int .i64 b] (.int .i64 (IntKind.i64.wrap (a.tdiv b))) := by
  intro H
  refine ACalls.go num_deeds_4.low (by simp) fun hcl => ?_
  repeat' (first | simp only [seval, evo, beq_self_eq_true, sb, *] | simp (disch := omega) only [if_pos, if_neg] | refine R.seq ?_ | refine LCB.text ?_ | refine LCB.quiet rfl ?_ | refine R.calls rfl ?_ | refine R.block ?_ | refine LCB.skip ?_ | refine LCB.exit ?_ | refine LCB.ret ?_ | ((first | refine RetOk.val hcl ?_ | refine Weak.at hcl ?_); simp only [seval, evw, List.forall_mem_cons, List.forall_mem_map, List.forall_mem_append, List.not_mem_nil, sb, *]) | ((first | refine LCB.cond (by simp only [seval, evo] <;> rfl) ?_ ?_ | refine wpG_split (by simp only [seval, evo] <;> rfl) ?_ ?_ | refine wqG_split (by simp only [seval, evo] <;> rfl) ?_ ?_) <;> (intro hc; try simp only [seval, nf] at hc)) | refine ACalls.inst ?_ | refine CallP.inst rfl ?_)
def deedE : List (AV × AV) := [(.int .i64 4, .fn (.func 79) [] []), (.int .i64 5, .fn (.func 80) [] []), (.int .i64 6, .fn (.func 81) [] []), (.int .i64 7, .fn (.func 82) [] []), (.int .i64 8, .fn (.func 83) [] []), (.int .i64 9, .fn (.func 84) [] []), (.int .i64 10, .fn (.func 85) [] []), (.int .i64 11, .fn (.func 86) [] []), (.int .i64 12, .fn (.func 88) [] [])]
theorem deedE_eq : deedE = [(.int .i64 4, .fn (.func 79) [] []), (.int .i64 5, .fn (.func 80) [] []), (.int .i64 6, .fn (.func 81) [] []), (.int .i64 7, .fn (.func 82) [] []), (.int .i64 8, .fn (.func 83) [] []), (.int .i64 9, .fn (.func 84) [] []), (.int .i64 10, .fn (.func 85) [] []), (.int .i64 11, .fn (.func 86) [] []), (.int .i64 12, .fn (.func 88) [] [])] := rfl
theorem num_deeds_ok (H : List AObj) : ACalls Tryd.prog 70 [] H fun r H' => r = .map H.length ∧ H' = H ++ [.map deedE] := by
  refine ACalls.go num_deeds.low (by simp) fun hcl => ?_
  repeat' (first | simp only [seval, evo, beq_self_eq_true, sb, *] | simp (disch := omega) only [if_pos, if_neg] | refine R.seq ?_ | refine LCB.text ?_ | refine LCB.quiet rfl ?_ | refine R.calls rfl ?_ | refine R.block ?_ | refine LCB.skip ?_ | refine LCB.exit ?_ | refine LCB.ret ?_ | ((first | refine RetOk.val hcl ?_ | refine Weak.at hcl ?_); simp only [seval, evw, List.forall_mem_cons, List.forall_mem_map, List.forall_mem_append, List.not_mem_nil, sb, *]) | ((first | refine LCB.cond (by simp only [seval, evo] <;> rfl) ?_ ?_ | refine wpG_split (by simp only [seval, evo] <;> rfl) ?_ ?_ | refine wqG_split (by simp only [seval, evo] <;> rfl) ?_ ?_) <;> (intro hc; try simp only [seval, nf] at hc)) | refine ACalls.inst ?_ | refine CallP.inst rfl ?_)
  refine RetOk.fin [.map deedE] (.map H.length) hcl ⟨?_, ?_⟩ ?_ ⟨rfl, rfl⟩
  · rfl
  · rw [deedE_eq]
    simp only [seval, evw, List.forall_mem_cons, List.forall_mem_map, List.forall_mem_append, List.not_mem_nil, sb, *]
  · simp only [seval, evw, List.forall_mem_cons, List.forall_mem_map, List.forall_mem_append, List.not_mem_nil, sb, *]
    all_goals simp
set_option maxHeartbeats 1000000 in
theorem num_Do_ok (op a b : Int) : Pure Tryd.prog 63 [.int .i64 op, .int .i64 a, .int .i64 b] (nopR (numDo op a b)) := by
  intro H
  refine ACalls.go num_Do.low (by simp) fun hcl => ?_
  unfold nopR
  by_cases o4 : op = 4
  · subst o4
    have hr : numDo 4 a b = (IntKind.i64.wrap (a + b), 0) := by simp [numDo]
    rw [hr]
    have h1 := Hold.mk (num_deed1_ok a b)
    repeat' (first | simp only [seval, evo, beq_self_eq_true, sb, *] | simp (disch := omega) only [if_pos, if_neg] | refine R.seq ?_ | refine LCB.text ?_ | refine LCB.quiet rfl ?_ | refine R.calls rfl ?_ | refine R.block ?_ | refine LCB.skip ?_ | refine LCB.exit ?_ | refine LCB.ret ?_ | ((first | refine RetOk.val hcl ?_ | refine Weak.at hcl ?_); simp only [seval, evw, List.forall_mem_cons, List.forall_mem_map, List.forall_mem_append, List.not_mem_nil, sb, *]) | ((first | refine LCB.cond (by simp only [seval, evo] <;> rfl) ?_ ?_ | refine wpG_split (by simp only [seval, evo] <;> rfl) ?_ ?_ | refine wqG_split (by simp only [seval, evo] <;> rfl) ?_ ?_) <;> (intro hc; try simp only [seval, nf] at hc)) | refine ACalls.inst ?_ | refine CallP.inst rfl ?_)
    refine (num_deeds_ok _).mono ?_
    rintro r H' ⟨rfl, rfl⟩
    rw [deedE_eq]
    repeat' (first | simp only [seval, evo, beq_self_eq_true, sb, *] | simp (disch := omega) only [if_pos, if_neg] | refine R.seq ?_ | refine LCB.text ?_ | refine LCB.quiet rfl ?_ | refine R.calls rfl ?_ | refine R.block ?_ | refine LCB.skip ?_ | refine LCB.exit ?_ | refine LCB.ret ?_ | ((first | refine RetOk.val hcl ?_ | refine Weak.at hcl ?_); simp only [seval, evw, List.forall_mem_cons, List.forall_mem_map, List.forall_mem_append, List.not_mem_nil, sb, *]) | ((first | refine LCB.cond (by simp only [seval, evo] <;> rfl) ?_ ?_ | refine wpG_split (by simp only [seval, evo] <;> rfl) ?_ ?_ | refine wqG_split (by simp only [seval, evo] <;> rfl) ?_ ?_) <;> (intro hc; try simp only [seval, nf] at hc)) | refine ACalls.inst ?_ | refine CallP.inst rfl ?_)
    first | refine ACalls.pure (h1.of) ?_ | refine CallP.pure (h1.of) rfl ?_ | refine CallX.pure (h1.of) ?_
    repeat' (first | simp only [seval, evo, beq_self_eq_true, sb, *] | simp (disch := omega) only [if_pos, if_neg] | refine R.seq ?_ | refine LCB.text ?_ | refine LCB.quiet rfl ?_ | refine R.calls rfl ?_ | refine R.block ?_ | refine LCB.skip ?_ | refine LCB.exit ?_ | refine LCB.ret ?_ | ((first | refine RetOk.val hcl ?_ | refine Weak.at hcl ?_); simp only [seval, evw, List.forall_mem_cons, List.forall_mem_map, List.forall_mem_append, List.not_mem_nil, sb, *]) | ((first | refine LCB.cond (by simp only [seval, evo] <;> rfl) ?_ ?_ | refine wpG_split (by simp only [seval, evo] <;> rfl) ?_ ?_ | refine wqG_split (by simp only [seval, evo] <;> rfl) ?_ ?_) <;> (intro hc; try simp only [seval, nf] at hc)) | refine ACalls.inst ?_ | refine CallP.inst rfl ?_)
  by_cases o5 : op = 5
  · subst o5
    have hr : numDo 5 a b = (IntKind.i64.wrap (a - b), 0) := by simp [numDo]
    rw [hr]
    have h1 := Hold.mk (num_deed2_ok a b)
    repeat' (first | simp only [seval, evo, beq_self_eq_true, sb, *] | simp (disch := omega) only [if_pos, if_neg] | refine R.seq ?_ | refine LCB.text ?_ | refine LCB.quiet rfl ?_ | refine R.calls rfl ?_ | refine R.block ?_ | refine LCB.skip ?_ | refine LCB.exit ?_ | refine LCB.ret ?_ | ((first | refine RetOk.val hcl ?_ | refine Weak.at hcl ?_); simp only [seval, evw, List.forall_mem_cons, List.forall_mem_map, List.forall_mem_append, List.not_mem_nil, sb, *]) | ((first | refine LCB.cond (by simp only [seval, evo] <;> rfl) ?_ ?_ | refine wpG_split (by simp only [seval, evo] <;> rfl) ?_ ?_ | refine wqG_split (by simp only [seval, evo] <;> rfl) ?_ ?_) <;> (intro hc; try simp only [seval, nf] at hc)) | refine ACalls.inst ?_ | refine CallP.inst rfl ?_)
    refine (num_deeds_ok _).mono ?_
    rintro r H' ⟨rfl, rfl⟩
    rw [deedE_eq]
    repeat' (first | simp only [seval, evo, beq_self_eq_true, sb, *] | simp (disch := omega) only [if_pos, if_neg] | refine R.seq ?_ | refine LCB.text ?_ | refine LCB.quiet rfl ?_ | refine R.calls rfl ?_ | refine R.block ?_ | refine LCB.skip ?_ | refine LCB.exit ?_ | refine LCB.ret ?_ | ((first | refine RetOk.val hcl ?_ | refine Weak.at hcl ?_); simp only [seval, evw, List.forall_mem_cons, List.forall_mem_map, List.forall_mem_append, List.not_mem_nil, sb, *]) | ((first | refine LCB.cond (by simp only [seval, evo] <;> rfl) ?_ ?_ | refine wpG_split (by simp only [seval, evo] <;> rfl) ?_ ?_ | refine wqG_split (by simp only [seval, evo] <;> rfl) ?_ ?_) <;> (intro hc; try simp only [seval, nf] at hc)) | refine ACalls.inst ?_ | refine CallP.inst rfl ?_)
    first | refine ACalls.pure (h1.of) ?_ | refine CallP.pure (h1.of) rfl ?_ | refine CallX.pure (h1.of) ?_
    repeat' (first | simp only [seval, evo, beq_self_eq_true, sb, *] | simp (disch := omega) only [if_pos, if_neg] | refine R.seq ?_ | refine LCB.text ?_ | refine LCB.quiet rfl ?_ | refine R.calls rfl ?_ | refine R.block ?_ | refine LCB.skip ?_ | refine LCB.exit ?_ | refine LCB.ret ?_ | ((first | refine RetOk.val hcl ?_ | refine Weak.at hcl ?_); simp only [seval, evw, List.forall_mem_cons, List.forall_mem_map, List.forall_mem_append, List.not_mem_nil, sb, *]) | ((first | refine LCB.cond (by simp only [seval, evo] <;> rfl) ?_ ?_ | refine wpG_split (by simp only [seval, evo] <;> rfl) ?_ ?_ | refine wqG_split (by simp only [seval, evo] <;> rfl) ?_ ?_) <;> (intro hc; try simp only [seval, nf] at hc)) | refine ACalls.inst ?_ | refine CallP.inst rfl ?_)
  by_cases o6 : op = 6
  · subst o6
    have hr : numDo 6 a b = (IntKind.i64.wrap (a * b), 0) := by simp [numDo]
    rw [hr]
    have h1 := Hold.mk (num_deed3_ok a b)
    repeat' (first | simp only [seval, evo, beq_self_eq_true, sb, *] | simp (disch := omega) only [if_pos, if_neg] | refine R.seq ?_ | refine LCB.text ?_ | refine LCB.quiet rfl ?_ | refine R.calls rfl ?_ | refine R.block ?_ | refine LCB.skip ?_ | refine LCB.exit ?_ | refine LCB.ret ?_ | ((first | refine RetOk.val hcl ?_ | refine Weak.at hcl ?_); simp only [seval, evw, List.forall_mem_cons, List.forall_mem_map, List.forall_mem_append, List.not_mem_nil, sb, *]) | ((first | refine LCB.cond (by simp only [seval, evo] <;> rfl) ?_ ?_ | refine wpG_split (by simp only [seval, evo] <;> rfl) ?_ ?_ | refine wqG_split (by simp only [seval, evo] <;> rfl) ?_ ?_) <;> (intro hc; try simp only [seval, nf] at hc)) | refine ACalls.inst ?_ | refine CallP.inst rfl ?_)
    refine (num_deeds_ok _).mono ?_
    rintro r H' ⟨rfl, rfl⟩
    rw [deedE_eq]
    repeat' (first | simp only [seval, evo, beq_self_eq_true, sb, *] | simp (disch := omega) only [if_pos, if_neg] | refine R.seq ?_ | refine LCB.text ?_ | refine LCB.quiet rfl ?_ | refine R.calls rfl ?_ | refine R.block ?_ | refine LCB.skip ?_ | refine LCB.exit ?_ | refine LCB.ret ?_ | ((first | refine RetOk.val hcl ?_ | refine Weak.at hcl ?_); simp only [seval, evw, List.forall_mem_cons, List.forall_mem_map, List.forall_mem_append, List.not_mem_nil, sb, *]) | ((first | refine LCB.cond (by simp only [seval, evo] <;> rfl) ?_ ?_ | refine wpG_split (by simp only [seval, evo] <;> rfl) ?_ ?_ | refine wqG_split (by simp only [seval, evo] <;> rfl) ?_ ?_) <;> (intro hc; try simp only [seval, nf] at hc)) | refine ACalls.inst ?_ | refine CallP.inst rfl ?_)
    first | refine ACalls.pure (h1.of) ?_ | refine CallP.pure (h1.of) rfl ?_ | refine CallX.pure (h1.of) ?_
    repeat' (first | simp only [seval, evo, beq_self_eq_true, sb, *] | simp (disch := omega) only [if_pos, if_neg] | refine R.seq ?_ | refine LCB.text ?_ | refine LCB.quiet rfl ?_ | refine R.calls rfl ?_ | refine R.block ?_ | refine LCB.skip ?_ | refine LCB.exit ?_ | refine LCB.ret ?_ | ((first | refine RetOk.val hcl ?_ | refine Weak.at hcl ?_); simp only [seval, evw, List.forall_mem_cons, List.forall_mem_map, List.forall_mem_append, List.not_mem_nil, sb, *]) | ((first | refine LCB.cond (by simp only [seval, evo] <;> rfl) ?_ ?_ | refine wpG_split (by simp only [seval, evo] <;> rfl) ?_ ?_ | refine wqG_split (by simp only [seval, evo] <;> rfl) ?_ ?_) <;> (intro hc; try simp only [seval, nf] at hc)) | refine ACalls.inst ?_ | refine CallP.inst rfl ?_)
  by_cases o7 : op = 7
  · subst o7
    by_cases hb : b = 0
    · have hr : numDo 7 a b = (0, 3) := by simp [numDo, hb]
      rw [hr]
      repeat' (first | simp only [seval, evo, beq_self_eq_true, sb, *] | simp (disch := omega) only [if_pos, if_neg] | refine R.seq ?_ | refine LCB.text ?_ | refine LCB.quiet rfl ?_ | refine R.calls rfl ?_ | refine R.block ?_ | refine LCB.skip ?_ | refine LCB.exit ?_ | refine LCB.ret ?_ | ((first | refine RetOk.val hcl ?_ | refine Weak.at hcl ?_); simp only [seval, evw, List.forall_mem_cons, List.forall_mem_map, List.forall_mem_append, List.not_mem_nil, sb, *]) | ((first | refine LCB.cond (by simp only [seval, evo] <;> rfl) ?_ ?_ | refine wpG_split (by simp only [seval, evo] <;> rfl) ?_ ?_ | refine wqG_split (by simp only [seval, evo] <;> rfl) ?_ ?_) <;> (intro hc; try simp only [seval, nf] at hc)) | refine ACalls.inst ?_ | refine CallP.inst rfl ?_)
      refine (num_deeds_ok _).mono ?_
      rintro r H' ⟨rfl, rfl⟩
      rw [deedE_eq]
      repeat' (first | simp only [seval, evo, beq_self_eq_true, sb, *] | simp (disch := omega) only [if_pos, if_neg] | refine R.seq ?_ | refine LCB.text ?_ | refine LCB.quiet rfl ?_ | refine R.calls rfl ?_ | refine R.block ?_ | refine LCB.skip ?_ | refine LCB.exit ?_ | refine LCB.ret ?_ | ((first | refine RetOk.val hcl ?_ | refine Weak.at hcl ?_); simp only [seval, evw, List.forall_mem_cons, List.forall_mem_map, List.forall_mem_append, List.not_mem_nil, sb, *]) | ((first | refine LCB.cond (by simp only [seval, evo] <;> rfl) ?_ ?_ | refine wpG_split (by simp only [seval, evo] <;> rfl) ?_ ?_ | refine wqG_split (by simp only [seval, evo] <;> rfl) ?_ ?_) <;> (intro hc; try simp only [seval, nf] at hc)) | refine ACalls.inst ?_ | refine CallP.inst rfl ?_)
    · have hr : numDo 7 a b = (IntKind.i64.wrap (a.tdiv b), 0) := by simp [numDo, hb]
      rw [hr]
      have h1 := Hold.mk (num_deed4_ok a b hb)
      repeat' (first | simp only [seval, evo, beq_self_eq_true, sb, *] | simp (disch := omega) only [if_pos, if_neg] | refine R.seq ?_ | refine LCB.text ?_ | refine LCB.quiet rfl ?_ | refine R.calls rfl ?_ | refine R.block ?_ | refine LCB.skip ?_ | refine LCB.exit ?_ | refine LCB.ret ?_ | ((first | refine RetOk.val hcl ?_ | refine Weak.at hcl ?_); simp only [seval, evw, List.forall_mem_cons, List.forall_mem_map, List.forall_mem_append, List.not_mem_nil, sb, *]) | ((first | refine LCB.cond (by simp only [seval, evo] <;> rfl) ?_ ?_ | refine wpG_split (by simp only [seval, evo] <;> rfl) ?_ ?_ | refine wqG_split (by simp only [seval, evo] <;> rfl) ?_ ?_) <;> (intro hc; try simp only [seval, nf] at hc)) | refine ACalls.inst ?_ | refine CallP.inst rfl ?_)
      refine (num_deeds_ok _).mono ?_
      rintro r H' ⟨rfl, rfl⟩
      rw [deedE_eq]
      repeat' (first | simp only [seval, evo, beq_self_eq_true, sb, *] | simp (disch := omega) only [if_pos, if_neg] | refine R.seq ?_ | refine LCB.text ?_ | refine LCB.quiet rfl ?_ | refine R.calls rfl ?_ | refine R.block ?_ | refine LCB.skip ?_ | refine LCB.exit ?_ | refine LCB.ret ?_ | ((first | refine RetOk.val hcl ?_ | refine Weak.at hcl ?_); simp only [seval, evw, List.forall_mem_cons, List.forall_mem_map, List.forall_mem_append, List.not_mem_nil, sb, *]) | ((first | refine LCB.cond (by simp only [seval, evo] <;> rfl) ?_ ?_ | refine wpG_split (by simp only [seval, evo] <;> rfl) ?_ ?_ | refine wqG_split (by simp only [seval, evo] <;> rfl) ?_ ?_) <;> (intro hc; try simp only [seval, nf] at hc)) | refine ACalls.inst ?_ | refine CallP.inst rfl ?_)
      first | refine ACalls.pure (h1.of) ?_ | refine CallP.pure (h1.of) rfl ?_ | refine CallX.pure (h1.of) ?_
      repeat' (first | simp only [seval, evo, beq_self_eq_true, sb, *] | simp (disch := omega) only [if_pos, if_neg] | refine R.seq ?_ | refine LCB.text ?_ | refine LCB.quiet rfl ?_ | refine R.calls rfl ?_ | refine R.block ?_ | refine LCB.skip ?_ | refine LCB.exit ?_ | refine LCB.ret ?_ | ((first | refine RetOk.val hcl ?_ | refine Weak.at hcl ?_); simp only [seval, evw, List.forall_mem_cons, List.forall_mem_map, List.forall_mem_append, List.not_mem_nil, sb, *]) | ((first | refine LCB.cond (by simp only [seval, evo] <;> rfl) ?_ ?_ | refine wpG_split (by simp only [seval, evo] <;> rfl) ?_ ?_ | refine wqG_split (by simp only [seval, evo] <;> rfl) ?_ ?_) <;> (intro hc; try simp only [seval, nf] at hc)) | refine ACalls.inst ?_ | refine CallP.inst rfl ?_)
  by_cases o8 : op = 8
  · subst o8
    have hr : numDo 8 a b = (bits .and .i64 a b, 0) := by simp [numDo]
    rw [hr]
    have h1 := Hold.mk (num_deed5_ok a b)
    repeat' (first | simp only [seval, evo, beq_self_eq_true, sb, *] | simp (disch := omega) only [if_pos, if_neg] | refine R.seq ?_ | refine LCB.text ?_ | refine LCB.quiet rfl ?_ | refine R.calls rfl ?_ | refine R.block ?_ | refine LCB.skip ?_ | refine LCB.exit ?_ | refine LCB.ret ?_ | ((first | refine RetOk.val hcl ?_ | refine Weak.at hcl ?_); simp only [seval, evw, List.forall_mem_cons, List.forall_mem_map, List.forall_mem_append, List.not_mem_nil, sb, *]) | ((first | refine LCB.cond (by simp only [seval, evo] <;> rfl) ?_ ?_ | refine wpG_split (by simp only [seval, evo] <;> rfl) ?_ ?_ | refine wqG_split (by simp only [seval, evo] <;> rfl) ?_ ?_) <;> (intro hc; try simp only [seval, nf] at hc)) | refine ACalls.inst ?_ | refine CallP.inst rfl ?_)
    refine (num_deeds_ok _).mono ?_
    rintro r H' ⟨rfl, rfl⟩
    rw [deedE_eq]
    repeat' (first | simp only [seval, evo, beq_self_eq_true, sb, *] | simp (disch := omega) only [if_pos, if_neg] | refine R.seq ?_ | refine LCB.text ?_ | refine LCB.quiet rfl ?_ | refine R.calls rfl ?_ | refine R.block ?_ | refine LCB.skip ?_ | refine LCB.exit ?_ | refine LCB.ret ?_ | ((first | refine RetOk.val hcl ?_ | refine Weak.at hcl ?_); simp only [seval, evw, List.forall_mem_cons, List.forall_mem_map, List.forall_mem_append, List.not_mem_nil, sb, *]) | ((first | refine LCB.cond (by simp only [seval, evo] <;> rfl) ?_ ?_ | refine wpG_split (by simp only [seval, evo] <;> rfl) ?_ ?_ | refine wqG_split (by simp only [seval, evo] <;> rfl) ?_ ?_) <;> (intro hc; try simp only [seval, nf] at hc)) | refine ACalls.inst ?_ | refine CallP.inst rfl ?_)
    first | refine ACalls.pure (h1.of) ?_ | refine CallP.pure (h1.of) rfl ?_ | refine CallX.pure (h1.of) ?_
    repeat' (first | simp only [seval, evo, beq_self_eq_true, sb, *] | simp (disch := omega) only [if_pos, if_neg] | refine R.seq ?_ | refine LCB.text ?_ | refine LCB.quiet rfl ?_ | refine R.calls rfl ?_ | refine R.block ?_ | refine LCB.skip ?_ | refine LCB.exit ?_ | refine LCB.ret ?_ | ((first | refine RetOk.val hcl ?_ | refine Weak.at hcl ?_); simp only [seval, evw, List.forall_mem_cons, List.forall_mem_map, List.forall_mem_append, List.not_mem_nil, sb, *]) | ((first | refine LCB.cond (by simp only [seval, evo] <;> rfl) ?_ ?_ | refine wpG_split (by simp only [seval, evo] <;> rfl) ?_ ?_ | refine wqG_split (by simp only [seval, evo] <;> rfl) ?_ ?_) <;> (intro hc; try simp only [seval, nf] at hc)) | refine ACalls.inst ?_ | refine CallP.inst rfl ?_)
  by_cases o9 : op = 9
  · subst o9
    have hr : numDo 9 a b = (bits .or .i64 a b, 0) := by simp [numDo]
    rw [hr]
    have h1 := Hold.mk (num_deed6_ok a b)
    repeat' (first | simp only [seval, evo, beq_self_eq_true, sb, *] | simp (disch := omega) only [if_pos, if_neg] | refine R.seq ?_ | refine LCB.text ?_ | refine LCB.quiet rfl ?_ | refine R.calls rfl ?_ | refine R.block ?_ | refine LCB.skip ?_ | refine LCB.exit ?_ | refine LCB.ret ?_ | ((first | refine RetOk.val hcl ?_ | refine Weak.at hcl ?_); simp only [seval, evw, List.forall_mem_cons, List.forall_mem_map, List.forall_mem_append, List.not_mem_nil, sb, *]) | ((first | refine LCB.cond (by simp only [seval, evo] <;> rfl) ?_ ?_ | refine wpG_split (by simp only [seval, evo] <;> rfl) ?_ ?_ | refine wqG_split (by simp only [seval, evo] <;> rfl) ?_ ?_) <;> (intro hc; try simp only [seval, nf] at hc)) | refine ACalls.inst ?_ | refine CallP.inst rfl ?_)
    refine (num_deeds_ok _).mono ?_
    rintro r H' ⟨rfl, rfl⟩
    rw [deedE_eq]
    repeat' (first | simp only [seval, evo, beq_self_eq_true, sb, *] | simp (disch := omega) only [if_pos, if_neg] | refine R.seq ?_ | refine LCB.text ?_ | refine LCB.quiet rfl ?_ | refine R.calls rfl ?_ | refine R.block ?_ | refine LCB.skip ?_ | refine LCB.exit ?_ | refine LCB.ret ?_ | ((first | refine RetOk.val hcl ?_ | refine Weak.at hcl ?_); simp only [seval, evw, List.forall_mem_cons, List.forall_mem_map, List.forall_mem_append, List.not_mem_nil, sb, *]) | ((first | refine LCB.cond (by simp only [seval, evo] <;> rfl) ?_ ?_ | refine wpG_split (by simp only [seval, evo] <;> rfl) ?_ ?_ | refine wqG_split (by simp only [seval, evo] <;> rfl) ?_ ?_) <;> (intro hc; try simp only [seval, nf] at hc)) | refine ACalls.inst ?_ | refine CallP.inst rfl ?_)
    first | refine ACalls.pure (h1.of) ?_ | refine CallP.pure (h1.of) rfl ?_ | refine CallX.pure (h1.of) ?_
    repeat' (first | simp only [seval, evo, beq_self_eq_true, sb, *] | simp (disch := omega) only [if_pos, if_neg] | refine R.seq ?_ | refine LCB.text ?_ | refine LCB.quiet rfl ?_ | refine R.calls rfl ?_ | refine R.block ?_ | refine LCB.skip ?_ | refine LCB.exit ?_ | refine LCB.ret ?_ | ((first | refine RetOk.val hcl ?_ | refine Weak.at hcl ?_); simp only [seval, evw, List.forall_mem_cons, List.forall_mem_map, List.forall_mem_append, List.not_mem_nil, sb, *]) | ((first | refine LCB.cond (by simp only [seval, evo] <;> rfl) ?_ ?_ | refine wpG_split (by simp only [seval, evo] <;> rfl) ?_ ?_ | refine wqG_split (by simp only [seval, evo] <;> rfl) ?_ ?_) <;> (intro hc; try simp only [seval, nf] at hc)) | refine ACalls.inst ?_ | refine CallP.inst rfl ?_)
  by_cases o10 : op = 10
  · subst o10
    have hr : numDo 10 a b = (bits .xor .i64 a b, 0) := by simp [numDo]
    rw [hr]
    have h1 := Hold.mk (num_deed7_ok a b)
    repeat' (first | simp only [seval, evo, beq_self_eq_true, sb, *] | simp (disch := omega) only [if_pos, if_neg] | refine R.seq ?_ | refine LCB.text ?_ | refine LCB.quiet rfl ?_ | refine R.calls rfl ?_ | refine R.block ?_ | refine LCB.skip ?_ | refine LCB.exit ?_ | refine LCB.ret ?_ | ((first | refine RetOk.val hcl ?_ | refine Weak.at hcl ?_); simp only [seval, evw, List.forall_mem_cons, List.forall_mem_map, List.forall_mem_append, List.not_mem_nil, sb, *]) | ((first | refine LCB.cond (by simp only [seval, evo] <;> rfl) ?_ ?_ | refine wpG_split (by simp only [seval, evo] <;> rfl) ?_ ?_ | refine wqG_split (by simp only [seval, evo] <;> rfl) ?_ ?_) <;> (intro hc; try simp only [seval, nf] at hc)) | refine ACalls.inst ?_ | refine CallP.inst rfl ?_)
    refine (num_deeds_ok _).mono ?_
    rintro r H' ⟨rfl, rfl⟩
    rw [deedE_eq]
    repeat' (first | simp only [seval, evo, beq_self_eq_true, sb, *] | simp (disch := omega) only [if_pos, if_neg] | refine R.seq ?_ | refine LCB.text ?_ | refine LCB.quiet rfl ?_ | refine R.calls rfl ?_ | refine R.block ?_ | refine LCB.skip ?_ | refine LCB.exit ?_ | refine LCB.ret ?_ | ((first | refine RetOk.val hcl ?_ | refine Weak.at hcl ?_); simp only [seval, evw, List.forall_mem_cons, List.forall_mem_map, List.forall_mem_append, List.not_mem_nil, sb, *]) | ((first | refine LCB.cond (by simp only [seval, evo] <;> rfl) ?_ ?_ | refine wpG_split (by simp only [seval, evo] <;> rfl) ?_ ?_ | refine wqG_split (by simp only [seval, evo] <;> rfl) ?_ ?_) <;> (intro hc; try simp only [seval, nf] at hc)) | refine ACalls.inst ?_ | refine CallP.inst rfl ?_)
    first | refine ACalls.pure (h1.of) ?_ | refine CallP.pure (h1.of) rfl ?_ | refine CallX.pure (h1.of) ?_
    repeat' (first | simp only [seval, evo, beq_self_eq_true, sb, *] | simp (disch := omega) only [if_pos, if_neg] | refine R.seq ?_ | refine LCB.text ?_ | refine LCB.quiet rfl ?_ | refine R.calls rfl ?_ | refine R.block ?_ | refine LCB.skip ?_ | refine LCB.exit ?_ | refine LCB.ret ?_ | ((first | refine RetOk.val hcl ?_ | refine Weak.at hcl ?_); simp only [seval, evw, List.forall_mem_cons, List.forall_mem_map, List.forall_mem_append, List.not_mem_nil, sb, *]) | ((first | refine LCB.cond (by simp only [seval, evo] <;> rfl) ?_ ?_ | refine wpG_split (by simp only [seval, evo] <;> rfl) ?_ ?_ | refine wqG_split (by simp only [seval, evo] <;> rfl) ?_ ?_) <;> (intro hc; try simp only [seval, nf] at hc)) | refine ACalls.inst ?_ | refine CallP.inst rfl ?_)
  by_cases o11 : op = 11
  · subst o11
    have hr : numDo 11 a b = (flagI (decide (a < b)), 0) := by simp [numDo]
    rw [hr]
    have h1 := Hold.mk (num_deed8_ok a b)
    repeat' (first | simp only [seval, evo, beq_self_eq_true, sb, *] | simp (disch := omega) only [if_pos, if_neg] | refine R.seq ?_ | refine LCB.text ?_ | refine LCB.quiet rfl ?_ | refine R.calls rfl ?_ | refine R.block ?_ | refine LCB.skip ?_ | refine LCB.exit ?_ | refine LCB.ret ?_ | ((first | refine RetOk.val hcl ?_ | refine Weak.at hcl ?_); simp only [seval, evw, List.forall_mem_cons, List.forall_mem_map, List.forall_mem_append, List.not_mem_nil, sb, *]) | ((first | refine LCB.cond (by simp only [seval, evo] <;> rfl) ?_ ?_ | refine wpG_split (by simp only [seval, evo] <;> rfl) ?_ ?_ | refine wqG_split (by simp only [seval, evo] <;> rfl) ?_ ?_) <;> (intro hc; try simp only [seval, nf] at hc)) | refine ACalls.inst ?_ | refine CallP.inst rfl ?_)
    refine (num_deeds_ok _).mono ?_
    rintro r H' ⟨rfl, rfl⟩
    rw [deedE_eq]
    repeat' (first | simp only [seval, evo, beq_self_eq_true, sb, *] | simp (disch := omega) only [if_pos, if_neg] | refine R.seq ?_ | refine LCB.text ?_ | refine LCB.quiet rfl ?_ | refine R.calls rfl ?_ | refine R.block ?_ | refine LCB.skip ?_ | refine LCB.exit ?_ | refine LCB.ret ?_ | ((first | refine RetOk.val hcl ?_ | refine Weak.at hcl ?_); simp only [seval, evw, List.forall_mem_cons, List.forall_mem_map, List.forall_mem_append, List.not_mem_nil, sb, *]) | ((first | refine LCB.cond (by simp only [seval, evo] <;> rfl) ?_ ?_ | refine wpG_split (by simp only [seval, evo] <;> rfl) ?_ ?_ | refine wqG_split (by simp only [seval, evo] <;> rfl) ?_ ?_) <;> (intro hc; try simp only [seval, nf] at hc)) | refine ACalls.inst ?_ | refine CallP.inst rfl ?_)
    first | refine ACalls.pure (h1.of) ?_ | refine CallP.pure (h1.of) rfl ?_ | refine CallX.pure (h1.of) ?_
    repeat' (first | simp only [seval, evo, beq_self_eq_true, sb, *] | simp (disch := omega) only [if_pos, if_neg] | refine R.seq ?_ | refine LCB.text ?_ | refine LCB.quiet rfl ?_ | refine R.calls rfl ?_ | refine R.block ?_ | refine LCB.skip ?_ | refine LCB.exit ?_ | refine LCB.ret ?_ | ((first | refine RetOk.val hcl ?_ | refine Weak.at hcl ?_); simp only [seval, evw, List.forall_mem_cons, List.forall_mem_map, List.forall_mem_append, List.not_mem_nil, sb, *]) | ((first | refine LCB.cond (by simp only [seval, evo] <;> rfl) ?_ ?_ | refine wpG_split (by simp only [seval, evo] <;> rfl) ?_ ?_ | refine wqG_split (by simp only [seval, evo] <;> rfl) ?_ ?_) <;> (intro hc; try simp only [seval, nf] at hc)) | refine ACalls.inst ?_ | refine CallP.inst rfl ?_)
  by_cases o12 : op = 12
  · subst o12
    have hr : numDo 12 a b = (flagI (decide (a = b)), 0) := by simp [numDo]
    rw [hr]
    have h1 := Hold.mk (num_deed9_ok a b)
    repeat' (first | simp only [seval, evo, beq_self_eq_true, sb, *] | simp (disch := omega) only [if_pos, if_neg] | refine R.seq ?_ | refine LCB.text ?_ | refine LCB.quiet rfl ?_ | refine R.calls rfl ?_ | refine R.block ?_ | refine LCB.skip ?_ | refine LCB.exit ?_ | refine LCB.ret ?_ | ((first | refine RetOk.val hcl ?_ | refine Weak.at hcl ?_); simp only [seval, evw, List.forall_mem_cons, List.forall_mem_map, List.forall_mem_append, List.not_mem_nil, sb, *]) | ((first | refine LCB.cond (by simp only [seval, evo] <;> rfl) ?_ ?_ | refine wpG_split (by simp only [seval, evo] <;> rfl) ?_ ?_ | refine wqG_split (by simp only [seval, evo] <;> rfl) ?_ ?_) <;> (intro hc; try simp only [seval, nf] at hc)) | refine ACalls.inst ?_ | refine CallP.inst rfl ?_)
    refine (num_deeds_ok _).mono ?_
    rintro r H' ⟨rfl, rfl⟩
    rw [deedE_eq]
    repeat' (first | simp only [seval, evo, beq_self_eq_true, sb, *] | simp (disch := omega) only [if_pos, if_neg] | refine R.seq ?_ | refine LCB.text ?_ | refine LCB.quiet rfl ?_ | refine R.calls rfl ?_ | refine R.block ?_ | refine LCB.skip ?_ | refine LCB.exit ?_ | refine LCB.ret ?_ | ((first | refine RetOk.val hcl ?_ | refine Weak.at hcl ?_); simp only [seval, evw, List.forall_mem_cons, List.forall_mem_map, List.forall_mem_append, List.not_mem_nil, sb, *]) | ((first | refine LCB.cond (by simp only [seval, evo] <;> rfl) ?_ ?_ | refine wpG_split (by simp only [seval, evo] <;> rfl) ?_ ?_ | refine wqG_split (by simp only [seval, evo] <;> rfl) ?_ ?_) <;> (intro hc; try simp only [seval, nf] at hc)) | refine ACalls.inst ?_ | refine CallP.inst rfl ?_)
    first | refine ACalls.pure (h1.of) ?_ | refine CallP.pure (h1.of) rfl ?_ | refine CallX.pure (h1.of) ?_
    repeat' (first | simp only [seval, evo, beq_self_eq_true, sb, *] | simp (disch := omega) only [if_pos, if_neg] | refine R.seq ?_ | refine LCB.text ?_ | refine LCB.quiet rfl ?_ | refine R.calls rfl ?_ | refine R.block ?_ | refine LCB.skip ?_ | refine LCB.exit ?_ | refine LCB.ret ?_ | ((first | refine RetOk.val hcl ?_ | refine Weak.at hcl ?_); simp only [seval, evw, List.forall_mem_cons, List.forall_mem_map, List.forall_mem_append, List.not_mem_nil, sb, *]) | ((first | refine LCB.cond (by simp only [seval, evo] <;> rfl) ?_ ?_ | refine wpG_split (by simp only [seval, evo] <;> rfl) ?_ ?_ | refine wqG_split (by simp only [seval, evo] <;> rfl) ?_ ?_) <;> (intro hc; try simp only [seval, nf] at hc)) | refine ACalls.inst ?_ | refine CallP.inst rfl ?_)
  have hr : numDo op a b = (0, 2) := by simp [numDo, o4, o5, o6, o7, o8, o9, o10, o11, o12]
  rw [hr]
  repeat' (first | simp only [seval, evo, beq_self_eq_true, sb, *] | simp (disch := omega) only [if_pos, if_neg] | refine R.seq ?_ | refine LCB.text ?_ | refine LCB.quiet rfl ?_ | refine R.calls rfl ?_ | refine R.block ?_ | refine LCB.skip ?_ | refine LCB.exit ?_ | refine LCB.ret ?_ | ((first | refine RetOk.val hcl ?_ | refine Weak.at hcl ?_); simp only [seval, evw, List.forall_mem_cons, List.forall_mem_map, List.forall_mem_append, List.not_mem_nil, sb, *]) | ((first | refine LCB.cond (by simp only [seval, evo] <;> rfl) ?_ ?_ | refine wpG_split (by simp only [seval, evo] <;> rfl) ?_ ?_ | refine wqG_split (by simp only [seval, evo] <;> rfl) ?_ ?_) <;> (intro hc; try simp only [seval, nf] at hc)) | refine ACalls.inst ?_ | refine CallP.inst rfl ?_)
  refine (num_deeds_ok _).mono ?_
  rintro r H' ⟨rfl, rfl⟩
  rw [deedE_eq]
  repeat' (first | simp only [seval, evo, beq_self_eq_true, sb, *] | simp (disch := omega) only [if_pos, if_neg] | refine R.seq ?_ | refine LCB.text ?_ | refine LCB.quiet rfl ?_ | refine R.calls rfl ?_ | refine R.block ?_ | refine LCB.skip ?_ | refine LCB.exit ?_ | refine LCB.ret ?_ | ((first | refine RetOk.val hcl ?_ | refine Weak.at hcl ?_); simp only [seval, evw, List.forall_mem_cons, List.forall_mem_map, List.forall_mem_append, List.not_mem_nil, sb, *]) | ((first | refine LCB.cond (by simp only [seval, evo] <;> rfl) ?_ ?_ | refine wpG_split (by simp only [seval, evo] <;> rfl) ?_ ?_ | refine wqG_split (by simp only [seval, evo] <;> rfl) ?_ ?_) <;> (intro hc; try simp only [seval, nf] at hc)) | refine ACalls.inst ?_ | refine CallP.inst rfl ?_)
theorem ref01_Do_ok (op a b : Int) : Pure Tryd.prog 49 [.int .i64 op, .int .i64 a, .int .i64 b] (nopR (numDo op a b)) := by
  intro H
  refine ACalls.go joineryref01_Do.low (by simp) fun hcl => ?_
  unfold nopR
  have w1 : IntKind.i64.wrap (a + IntKind.i64.wrap (0 - b)) = IntKind.i64.wrap (a - b) := by simp only [IntKind.wrap_i64]; omega
  have w2 := bits_xor a b
  have w3 : a.tdiv (-1) = 0 - a := by simp
  by_cases o4 : op = 4
  · subst o4
    have hr : numDo 4 a b = (IntKind.i64.wrap (a + b), 0) := by simp [numDo]
    rw [hr]
    repeat' (first | simp only [seval, evo, beq_self_eq_true, sb, *] | simp (disch := omega) only [if_pos, if_neg] | refine R.seq ?_ | refine LCB.text ?_ | refine LCB.quiet rfl ?_ | refine R.calls rfl ?_ | refine R.block ?_ | refine LCB.skip ?_ | refine LCB.exit ?_ | refine LCB.ret ?_ | ((first | refine RetOk.val hcl ?_ | refine Weak.at hcl ?_); simp only [seval, evw, List.forall_mem_cons, List.forall_mem_map, List.forall_mem_append, List.not_mem_nil, sb, *]) | ((first | refine LCB.cond (by simp only [seval, evo] <;> rfl) ?_ ?_ | refine wpG_split (by simp only [seval, evo] <;> rfl) ?_ ?_ | refine wqG_split (by simp only [seval, evo] <;> rfl) ?_ ?_) <;> (intro hc; try simp only [seval, nf] at hc)) | refine ACalls.inst ?_ | refine CallP.inst rfl ?_)
  by_cases o5 : op = 5
  · subst o5
    have hr : numDo 5 a b = (IntKind.i64.wrap (a - b), 0) := by simp [numDo]
    rw [hr]
    repeat' (first | simp only [seval, evo, beq_self_eq_true, sb, *] | simp (disch := omega) only [if_pos, if_neg] | refine R.seq ?_ | refine LCB.text ?_ | refine LCB.quiet rfl ?_ | refine R.calls rfl ?_ | refine R.block ?_ | refine LCB.skip ?_ | refine LCB.exit ?_ | refine LCB.ret ?_ | ((first | refine RetOk.val hcl ?_ | refine Weak.at hcl ?_); simp only [seval, evw, List.forall_mem_cons, List.forall_mem_map, List.forall_mem_append, List.not_mem_nil, sb, *]) | ((first | refine LCB.cond (by simp only [seval, evo] <;> rfl) ?_ ?_ | refine wpG_split (by simp only [seval, evo] <;> rfl) ?_ ?_ | refine wqG_split (by simp only [seval, evo] <;> rfl) ?_ ?_) <;> (intro hc; try simp only [seval, nf] at hc)) | refine ACalls.inst ?_ | refine CallP.inst rfl ?_)
  by_cases o6 : op = 6
  · subst o6
    have hr : numDo 6 a b = (IntKind.i64.wrap (a * b), 0) := by simp [numDo]
    rw [hr]
    repeat' (first | simp only [seval, evo, beq_self_eq_true, sb, *] | simp (disch := omega) only [if_pos, if_neg] | refine R.seq ?_ | refine LCB.text ?_ | refine LCB.quiet rfl ?_ | refine R.calls rfl ?_ | refine R.block ?_ | refine LCB.skip ?_ | refine LCB.exit ?_ | refine LCB.ret ?_ | ((first | refine RetOk.val hcl ?_ | refine Weak.at hcl ?_); simp only [seval, evw, List.forall_mem_cons, List.forall_mem_map, List.forall_mem_append, List.not_mem_nil, sb, *]) | ((first | refine LCB.cond (by simp only [seval, evo] <;> rfl) ?_ ?_ | refine wpG_split (by simp only [seval, evo] <;> rfl) ?_ ?_ | refine wqG_split (by simp only [seval, evo] <;> rfl) ?_ ?_) <;> (intro hc; try simp only [seval, nf] at hc)) | refine ACalls.inst ?_ | refine CallP.inst rfl ?_)
  by_cases o7 : op = 7
  · subst o7
    by_cases h0 : b = 0
    · have hr : numDo 7 a b = (0, 3) := by simp [numDo, h0]
      rw [hr]
      repeat' (first | simp only [seval, evo, beq_self_eq_true, sb, *] | simp (disch := omega) only [if_pos, if_neg] | refine R.seq ?_ | refine LCB.text ?_ | refine LCB.quiet rfl ?_ | refine R.calls rfl ?_ | refine R.block ?_ | refine LCB.skip ?_ | refine LCB.exit ?_ | refine LCB.ret ?_ | ((first | refine RetOk.val hcl ?_ | refine Weak.at hcl ?_); simp only [seval, evw, List.forall_mem_cons, List.forall_mem_map, List.forall_mem_append, List.not_mem_nil, sb, *]) | ((first | refine LCB.cond (by simp only [seval, evo] <;> rfl) ?_ ?_ | refine wpG_split (by simp only [seval, evo] <;> rfl) ?_ ?_ | refine wqG_split (by simp only [seval, evo] <;> rfl) ?_ ?_) <;> (intro hc; try simp only [seval, nf] at hc)) | refine ACalls.inst ?_ | refine CallP.inst rfl ?_)
    · by_cases h1 : b = -1
      · have hr : numDo 7 a b = (IntKind.i64.wrap (0 - a), 0) := by simp [numDo, h1]
        rw [hr]
        repeat' (first | simp only [seval, evo, beq_self_eq_true, sb, *] | simp (disch := omega) only [if_pos, if_neg] | refine R.seq ?_ | refine LCB.text ?_ | refine LCB.quiet rfl ?_ | refine R.calls rfl ?_ | refine R.block ?_ | refine LCB.skip ?_ | refine LCB.exit ?_ | refine LCB.ret ?_ | ((first | refine RetOk.val hcl ?_ | refine Weak.at hcl ?_); simp only [seval, evw, List.forall_mem_cons, List.forall_mem_map, List.forall_mem_append, List.not_mem_nil, sb, *]) | ((first | refine LCB.cond (by simp only [seval, evo] <;> rfl) ?_ ?_ | refine wpG_split (by simp only [seval, evo] <;> rfl) ?_ ?_ | refine wqG_split (by simp only [seval, evo] <;> rfl) ?_ ?_) <;> (intro hc; try simp only [seval, nf] at hc)) | refine ACalls.inst ?_ | refine CallP.inst rfl ?_)
      · have hr : numDo 7 a b = (IntKind.i64.wrap (a.tdiv b), 0) := by simp [numDo, h0]
        rw [hr]
        repeat' (first | simp only [seval, evo, beq_self_eq_true, sb, *] | simp (disch := omega) only [if_pos, if_neg] | refine R.seq ?_ | refine LCB.text ?_ | refine LCB.quiet rfl ?_ | refine R.calls rfl ?_ | refine R.block ?_ | refine LCB.skip ?_ | refine LCB.exit ?_ | refine LCB.ret ?_ | ((first | refine RetOk.val hcl ?_ | refine Weak.at hcl ?_); simp only [seval, evw, List.forall_mem_cons, List.forall_mem_map, List.forall_mem_append, List.not_mem_nil, sb, *]) | ((first | refine LCB.cond (by simp only [seval, evo] <;> rfl) ?_ ?_ | refine wpG_split (by simp only [seval, evo] <;> rfl) ?_ ?_ | refine wqG_split (by simp only [seval, evo] <;> rfl) ?_ ?_) <;> (intro hc; try simp only [seval, nf] at hc)) | refine ACalls.inst ?_ | refine CallP.inst rfl ?_)
  by_cases o8 : op = 8
  · subst o8
    have hr : numDo 8 a b = (bits .and .i64 a b, 0) := by simp [numDo]
    rw [hr]
    repeat' (first | simp only [seval, evo, beq_self_eq_true, sb, *] | simp (disch := omega) only [if_pos, if_neg] | refine R.seq ?_ | refine LCB.text ?_ | refine LCB.quiet rfl ?_ | refine R.calls rfl ?_ | refine R.block ?_ | refine LCB.skip ?_ | refine LCB.exit ?_ | refine LCB.ret ?_ | ((first | refine RetOk.val hcl ?_ | refine Weak.at hcl ?_); simp only [seval, evw, List.forall_mem_cons, List.forall_mem_map, List.forall_mem_append, List.not_mem_nil, sb, *]) | ((first | refine LCB.cond (by simp only [seval, evo] <;> rfl) ?_ ?_ | refine wpG_split (by simp only [seval, evo] <;> rfl) ?_ ?_ | refine wqG_split (by simp only [seval, evo] <;> rfl) ?_ ?_) <;> (intro hc; try simp only [seval, nf] at hc)) | refine ACalls.inst ?_ | refine CallP.inst rfl ?_)
  by_cases o9 : op = 9
  · subst o9
    have hr : numDo 9 a b = (bits .or .i64 a b, 0) := by simp [numDo]
    rw [hr]
    repeat' (first | simp only [seval, evo, beq_self_eq_true, sb, *] | simp (disch := omega) only [if_pos, if_neg] | refine R.seq ?_ | refine LCB.text ?_ | refine LCB.quiet rfl ?_ | refine R.calls rfl ?_ | refine R.block ?_ | refine LCB.skip ?_ | refine LCB.exit ?_ | refine LCB.ret ?_ | ((first | refine RetOk.val hcl ?_ | refine Weak.at hcl ?_); simp only [seval, evw, List.forall_mem_cons, List.forall_mem_map, List.forall_mem_append, List.not_mem_nil, sb, *]) | ((first | refine LCB.cond (by simp only [seval, evo] <;> rfl) ?_ ?_ | refine wpG_split (by simp only [seval, evo] <;> rfl) ?_ ?_ | refine wqG_split (by simp only [seval, evo] <;> rfl) ?_ ?_) <;> (intro hc; try simp only [seval, nf] at hc)) | refine ACalls.inst ?_ | refine CallP.inst rfl ?_)
  by_cases o10 : op = 10
  · subst o10
    have hr : numDo 10 a b = (bits .xor .i64 a b, 0) := by simp [numDo]
    rw [hr]
    repeat' (first | simp only [seval, evo, beq_self_eq_true, sb, *] | simp (disch := omega) only [if_pos, if_neg] | refine R.seq ?_ | refine LCB.text ?_ | refine LCB.quiet rfl ?_ | refine R.calls rfl ?_ | refine R.block ?_ | refine LCB.skip ?_ | refine LCB.exit ?_ | refine LCB.ret ?_ | ((first | refine RetOk.val hcl ?_ | refine Weak.at hcl ?_); simp only [seval, evw, List.forall_mem_cons, List.forall_mem_map, List.forall_mem_append, List.not_mem_nil, sb, *]) | ((first | refine LCB.cond (by simp only [seval, evo] <;> rfl) ?_ ?_ | refine wpG_split (by simp only [seval, evo] <;> rfl) ?_ ?_ | refine wqG_split (by simp only [seval, evo] <;> rfl) ?_ ?_) <;> (intro hc; try simp only [seval, nf] at hc)) | refine ACalls.inst ?_ | refine CallP.inst rfl ?_)
  by_cases o11 : op = 11
  · subst o11
    by_cases h0 : a < b
    · have hr : numDo 11 a b = (1, 0) := by simp [numDo, h0, flagI]
      rw [hr]
      repeat' (first | simp only [seval, evo, beq_self_eq_true, sb, *] | simp (disch := omega) only [if_pos, if_neg] | refine R.seq ?_ | refine LCB.text ?_ | refine LCB.quiet rfl ?_ | refine R.calls rfl ?_ | refine R.block ?_ | refine LCB.skip ?_ | refine LCB.exit ?_ | refine LCB.ret ?_ | ((first | refine RetOk.val hcl ?_ | refine Weak.at hcl ?_); simp only [seval, evw, List.forall_mem_cons, List.forall_mem_map, List.forall_mem_append, List.not_mem_nil, sb, *]) | ((first | refine LCB.cond (by simp only [seval, evo] <;> rfl) ?_ ?_ | refine wpG_split (by simp only [seval, evo] <;> rfl) ?_ ?_ | refine wqG_split (by simp only [seval, evo] <;> rfl) ?_ ?_) <;> (intro hc; try simp only [seval, nf] at hc)) | refine ACalls.inst ?_ | refine CallP.inst rfl ?_)
    · have hr : numDo 11 a b = (0, 0) := by simp [numDo, h0, flagI]
      rw [hr]
      repeat' (first | simp only [seval, evo, beq_self_eq_true, sb, *] | simp (disch := omega) only [if_pos, if_neg] | refine R.seq ?_ | refine LCB.text ?_ | refine LCB.quiet rfl ?_ | refine R.calls rfl ?_ | refine R.block ?_ | refine LCB.skip ?_ | refine LCB.exit ?_ | refine LCB.ret ?_ | ((first | refine RetOk.val hcl ?_ | refine Weak.at hcl ?_); simp only [seval, evw, List.forall_mem_cons, List.forall_mem_map, List.forall_mem_append, List.not_mem_nil, sb, *]) | ((first | refine LCB.cond (by simp only [seval, evo] <;> rfl) ?_ ?_ | refine wpG_split (by simp only [seval, evo] <;> rfl) ?_ ?_ | refine wqG_split (by simp only [seval, evo] <;> rfl) ?_ ?_) <;> (intro hc; try simp only [seval, nf] at hc)) | refine ACalls.inst ?_ | refine CallP.inst rfl ?_)
  by_cases o12 : op = 12
  · subst o12
    by_cases h0 : a = b
    · have hr : numDo 12 a b = (1, 0) := by simp [numDo, h0, flagI]
      rw [hr]
      subst h0
      have h1 : ¬ a < a := by omega
      repeat' (first | simp only [seval, evo, beq_self_eq_true, sb, *] | simp (disch := omega) only [if_pos, if_neg] | refine R.seq ?_ | refine LCB.text ?_ | refine LCB.quiet rfl ?_ | refine R.calls rfl ?_ | refine R.block ?_ | refine LCB.skip ?_ | refine LCB.exit ?_ | refine LCB.ret ?_ | ((first | refine RetOk.val hcl ?_ | refine Weak.at hcl ?_); simp only [seval, evw, List.forall_mem_cons, List.forall_mem_map, List.forall_mem_append, List.not_mem_nil, sb, *]) | ((first | refine LCB.cond (by simp only [seval, evo] <;> rfl) ?_ ?_ | refine wpG_split (by simp only [seval, evo] <;> rfl) ?_ ?_ | refine wqG_split (by simp only [seval, evo] <;> rfl) ?_ ?_) <;> (intro hc; try simp only [seval, nf] at hc)) | refine ACalls.inst ?_ | refine CallP.inst rfl ?_)
    · have hr : numDo 12 a b = (0, 0) := by simp [numDo, h0, flagI]
      rw [hr]
      by_cases h1 : a < b
      · repeat' (first | simp only [seval, evo, beq_self_eq_true, sb, *] | simp (disch := omega) only [if_pos, if_neg] | refine R.seq ?_ | refine LCB.text ?_ | refine LCB.quiet rfl ?_ | refine R.calls rfl ?_ | refine R.block ?_ | refine LCB.skip ?_ | refine LCB.exit ?_ | refine LCB.ret ?_ | ((first | refine RetOk.val hcl ?_ | refine Weak.at hcl ?_); simp only [seval, evw, List.forall_mem_cons, List.forall_mem_map, List.forall_mem_append, List.not_mem_nil, sb, *]) | ((first | refine LCB.cond (by simp only [seval, evo] <;> rfl) ?_ ?_ | refine wpG_split (by simp only [seval, evo] <;> rfl) ?_ ?_ | refine wqG_split (by simp only [seval, evo] <;> rfl) ?_ ?_) <;> (intro hc; try simp only [seval, nf] at hc)) | refine ACalls.inst ?_ | refine CallP.inst rfl ?_)
      · have h2 : b < a := by omega
        repeat' (first | simp only [seval, evo, beq_self_eq_true, sb, *] | simp (disch := omega) only [if_pos, if_neg] | refine R.seq ?_ | refine LCB.text ?_ | refine LCB.quiet rfl ?_ | refine R.calls rfl ?_ | refine R.block ?_ | refine LCB.skip ?_ | refine LCB.exit ?_ | refine LCB.ret ?_ | ((first | refine RetOk.val hcl ?_ | refine Weak.at hcl ?_); simp only [seval, evw, List.forall_mem_cons, List.forall_mem_map, List.forall_mem_append, List.not_mem_nil, sb, *]) | ((first | refine LCB.cond (by simp only [seval, evo] <;> rfl) ?_ ?_ | refine wpG_split (by simp only [seval, evo] <;> rfl) ?_ ?_ | refine wqG_split (by simp only [seval, evo] <;> rfl) ?_ ?_) <;> (intro hc; try simp only [seval, nf] at hc)) | refine ACalls.inst ?_ | refine CallP.inst rfl ?_)
  have hr : numDo op a b = (0, 2) := by simp [numDo, o4, o5, o6, o7, o8, o9, o10, o11, o12]
  rw [hr]
  repeat' (first | simp only [seval, evo, beq_self_eq_true, sb, *] | simp (disch := omega) only [if_pos, if_neg] | refine R.seq ?_ | refine LCB.text ?_ | refine LCB.quiet rfl ?_ | refine R.calls rfl ?_ | refine R.block ?_ | refine LCB.skip ?_ | refine LCB.exit ?_ | refine LCB.ret ?_ | ((first | refine RetOk.val hcl ?_ | refine Weak.at hcl ?_); simp only [seval, evw, List.forall_mem_cons, List.forall_mem_map, List.forall_mem_append, List.not_mem_nil, sb, *]) | ((first | refine LCB.cond (by simp only [seval, evo] <;> rfl) ?_ ?_ | refine wpG_split (by simp only [seval, evo] <;> rfl) ?_ ?_ | refine wqG_split (by simp only [seval, evo] <;> rfl) ?_ ?_) <;> (intro hc; try simp only [seval, nf] at hc)) | refine ACalls.inst ?_ | refine CallP.inst rfl ?_)
end Go.Proofs.YtbkbehkjndmabaaDoor
