/-
  AllocSpills, of every function: behind a Spill no slot is free; it can't be spilt again; and each instruction but a Mov is there as often as it was.
-/
import Derived.Test.YtgdopmhgmpkahaaDoorZ7
namespace Go.Proofs.YtgdopmhgmpkahaaDoor
open Go.ChangeShapes Go.WideShapes Go.ChangeAt Go.RowKit
set_option linter.unusedVariables false
set_option linter.unusedSimpArgs false
theorem spill_len (f : List Ins) : (spillF f).1.length ≤ 200 ∧ ((spillF f).2 ≠ 0 → (spillF f).1 = []) := by
  unfold spillF
  split
  · split
    · simp
    · split
      · simp
      · simp; omega
  · simp
theorem opCount_take {op : Int} {f : List Ins} {i : Nat} (h : i < f.length) : opCount op (f.take (i + 1)) = opCount op (f.take i) + if (f.getD i noIns).op = op then 1 else 0 := by
  rw [take_ins h]
  unfold opCount
  rw [List.countP_append, List.countP_singleton]
  simp
theorem opCount_le (op : Int) (f : List Ins) : opCount op f ≤ f.length := List.countP_le_length
set_option maxHeartbeats 8000000 in
theorem AllocSpills_ok (f : List Ins) : Pure Tryd.prog 3 [encFn f] (.bool true) := by
  intro H
  refine ACalls.go joinerylaw23_AllocSpills.low (by simp) fun hcl => ?_
  unfold encFn
  by_cases hf : (300 : Int) < (f.length : Int)
  · repeat' (first | simp only [seval, evx, beq_self_eq_true, encB_def, encN_def, sb, insA, encIns, ins_dec, ins_eta, *] | simp (disch := omega) only [if_pos, if_neg] | refine R.seq ?_ | refine LCB.text ?_ | refine LCB.quiet rfl ?_ | refine R.anyX ?_ | refine R.block ?_ | refine LCB.skip ?_ | refine LCB.exit ?_ | refine LCB.ret ?_ | ((first | refine RetOk.val hcl ?_ | refine Weak.at hcl ?_); simp only [seval, evw, List.forall_mem_cons, List.forall_mem_map, List.forall_mem_append, List.not_mem_nil, encB_def, encN_def, sb, insA, encIns, ins_dec, ins_eta, *]) | ((first | refine LCB.cond (by simp only [seval, evx] <;> rfl) ?_ ?_ | refine wpG_split (by simp only [seval, evx] <;> rfl) ?_ ?_ | refine wxG_split (by simp only [seval, evx] <;> rfl) ?_ ?_) <;> (intro hc; try simp only [seval, nf] at hc)) | refine ACalls.inst ?_ | refine CallX.inst ?_ | (with_reducible refine And.intro ?_ ?_) | exact True.intro)
  have h1 := alloc_Spill_ok f
  obtain ⟨k1, k2⟩ := spill_len f
  by_cases he : (spillF f).2 = 0
  case neg =>
    have k3 := k2 he
    generalize spillF f = r at *
    obtain ⟨g, e⟩ := r
    simp only at k3 he
    subst k3
    rw [resP_eq] at h1
    simp only [List.map_nil] at h1
    unfold encFn at h1
    clear k2 k1
    replace h1 := Hold.mk h1
    repeat' (first | simp only [seval, evx, beq_self_eq_true, encB_def, encN_def, sb, insA, encIns, ins_dec, ins_eta, *] | simp (disch := omega) only [if_pos, if_neg] | refine R.seq ?_ | refine LCB.text ?_ | refine LCB.quiet rfl ?_ | refine R.anyX ?_ | refine R.block ?_ | refine LCB.skip ?_ | refine LCB.exit ?_ | refine LCB.ret ?_ | ((first | refine RetOk.val hcl ?_ | refine Weak.at hcl ?_); simp only [seval, evw, List.forall_mem_cons, List.forall_mem_map, List.forall_mem_append, List.not_mem_nil, encB_def, encN_def, sb, insA, encIns, ins_dec, ins_eta, *]) | ((first | refine LCB.cond (by simp only [seval, evx] <;> rfl) ?_ ?_ | refine wpG_split (by simp only [seval, evx] <;> rfl) ?_ ?_ | refine wxG_split (by simp only [seval, evx] <;> rfl) ?_ ?_) <;> (intro hc; try simp only [seval, nf] at hc)) | refine ACalls.inst ?_ | refine CallX.inst ?_ | (with_reducible refine And.intro ?_ ?_) | exact True.intro | refine CallX.pure h1.of ?_ | refine ACalls.pure h1.of ?_ | refine ACalls.pure h2.of ?_ | refine ACalls.pure h3.of ?_)
  obtain ⟨q1, q2, q3, q4⟩ := spill_twice he
  have hcnt : ∀ op, (op ≠ 2 → opCount op (spillF f).1 = opCount op f) ∧ (op = 2 → opCount op f + 8 ≤ opCount op (spillF f).1) := fun op => by rw [q3]; exact opCount_spill op f
  have h2 := alloc_Spill_ok (spillF f).1
  have h3 := asm_Right_ok (spillF f).1
  rw [q1, resP_eq] at h2
  rw [q2] at h3
  clear q1 q2 q3 q4 k2
  generalize spillF f = r at *
  obtain ⟨g, e⟩ := r
  simp only at he hcnt h2 h3 k1
  subst he
  rw [resP_eq] at h1
  simp only at h1
  unfold encFn at h1 h2 h3
  rw [List.map_nil] at h2
  replace h1 := Hold.mk h1
  replace h2 := Hold.mk h2
  replace h3 := Hold.mk h3
  replace hcnt := Hold.mk hcnt
  repeat' (first | simp only [seval, evx, beq_self_eq_true, encB_def, encN_def, sb, insA, encIns, ins_dec, ins_eta, *] | simp (disch := omega) only [if_pos, if_neg] | refine R.seq ?_ | refine LCB.text ?_ | refine LCB.quiet rfl ?_ | refine R.anyX ?_ | refine R.block ?_ | refine LCB.skip ?_ | refine LCB.exit ?_ | refine LCB.ret ?_ | ((first | refine RetOk.val hcl ?_ | refine Weak.at hcl ?_); simp only [seval, evw, List.forall_mem_cons, List.forall_mem_map, List.forall_mem_append, List.not_mem_nil, encB_def, encN_def, sb, insA, encIns, ins_dec, ins_eta, *]) | ((first | refine LCB.cond (by simp only [seval, evx] <;> rfl) ?_ ?_ | refine wpG_split (by simp only [seval, evx] <;> rfl) ?_ ?_ | refine wxG_split (by simp only [seval, evx] <;> rfl) ?_ ?_) <;> (intro hc; try simp only [seval, nf] at hc)) | refine ACalls.inst ?_ | refine CallX.inst ?_ | (with_reducible refine And.intro ?_ ?_) | exact True.intro | refine CallX.pure h1.of ?_ | refine ACalls.pure h1.of ?_ | refine ACalls.pure h2.of ?_ | refine ACalls.pure h3.of ?_)
  refine R.loop (S := Nat) ⟨fun o => [(0, .list (f.map encIns)), (3, .list (g.map encIns)), (6, .int .i64 6), (7, .int .i64 (o : Int))], fun o => H ++ [], fun o => o ≤ 19, fun o => 19 - o⟩ 1 (show 1 ≤ 19 by decide) (Weak.at hcl ?_) ?_
  · simp only [seval, evw, List.forall_mem_cons, List.forall_mem_map, List.forall_mem_append, List.not_mem_nil, encB_def, encN_def, sb, insA, encIns, ins_dec, ins_eta, *]
  intro o ho
  simp only at ho ⊢
  by_cases hlo : o ≤ 18
  case neg =>
    have hie : o = 19 := by omega
    subst hie
    have e1 : ¬ ((19 : Nat) : Int) ≤ 18 := by omega
    repeat' (first | simp only [seval, evx, beq_self_eq_true, encB_def, encN_def, sb, insA, encIns, ins_dec, ins_eta, *] | simp (disch := omega) only [if_pos, if_neg] | refine R.seq ?_ | refine LCB.text ?_ | refine LCB.quiet rfl ?_ | refine R.anyX ?_ | refine R.block ?_ | refine LCB.skip ?_ | refine LCB.exit ?_ | refine LCB.ret ?_ | ((first | refine RetOk.val hcl ?_ | refine Weak.at hcl ?_); simp only [seval, evw, List.forall_mem_cons, List.forall_mem_map, List.forall_mem_append, List.not_mem_nil, encB_def, encN_def, sb, insA, encIns, ins_dec, ins_eta, *]) | ((first | refine LCB.cond (by simp only [seval, evx] <;> rfl) ?_ ?_ | refine wpG_split (by simp only [seval, evx] <;> rfl) ?_ ?_ | refine wxG_split (by simp only [seval, evx] <;> rfl) ?_ ?_) <;> (intro hc; try simp only [seval, nf] at hc)) | refine ACalls.inst ?_ | refine CallX.inst ?_ | (with_reducible refine And.intro ?_ ?_) | exact True.intro | refine CallX.pure h1.of ?_ | refine ACalls.pure h1.of ?_ | refine ACalls.pure h2.of ?_ | refine ACalls.pure h3.of ?_)
  have e1 : (o : Int) ≤ 18 := by omega
  have e2 : IntKind.i64.wrap ((o : Int) + 1) = ((o + 1 : Nat) : Int) := by rw [IntKind.wrap_i64]; omega
  have hc := hcnt.of (o : Int)
  generalize hO : (o : Int) = O at *
  have hO' := Hold.mk hO
  clear hO
  have lf := opCount_le O f
  have lg := opCount_le O g
  replace hcnt := Hold.mk hc
  clear hc
  replace lf := Hold.mk lf
  replace lg := Hold.mk lg
  repeat' (first | simp only [seval, evx, beq_self_eq_true, encB_def, encN_def, sb, insA, encIns, ins_dec, ins_eta, *] | simp (disch := omega) only [if_pos, if_neg] | refine R.seq ?_ | refine LCB.text ?_ | refine LCB.quiet rfl ?_ | refine R.anyX ?_ | refine R.block ?_ | refine LCB.skip ?_ | refine LCB.exit ?_ | refine LCB.ret ?_ | ((first | refine RetOk.val hcl ?_ | refine Weak.at hcl ?_); simp only [seval, evw, List.forall_mem_cons, List.forall_mem_map, List.forall_mem_append, List.not_mem_nil, encB_def, encN_def, sb, insA, encIns, ins_dec, ins_eta, *]) | ((first | refine LCB.cond (by simp only [seval, evx] <;> rfl) ?_ ?_ | refine wpG_split (by simp only [seval, evx] <;> rfl) ?_ ?_ | refine wxG_split (by simp only [seval, evx] <;> rfl) ?_ ?_) <;> (intro hc; try simp only [seval, nf] at hc)) | refine ACalls.inst ?_ | refine CallX.inst ?_ | (with_reducible refine And.intro ?_ ?_) | exact True.intro | refine CallX.pure h1.of ?_ | refine ACalls.pure h1.of ?_ | refine ACalls.pure h2.of ?_ | refine ACalls.pure h3.of ?_)
  refine R.loop (S := Nat) ⟨fun i => [(0, .list (f.map encIns)), (3, .list (g.map encIns)), (6, .int .i64 6), (7, .int .i64 O), (8, .int .i64 (opCount O (f.take i) : Int)), (9, .int .i64 0), (10, .int .i64 (i : Int))], fun _ => H ++ [], fun i => i ≤ f.length, fun i => f.length - i⟩ 0 (Nat.zero_le _) (Weak.at hcl ?_) ?_
  · have e0 : opCount O [] = 0 := rfl
    simp only [seval, evw, List.forall_mem_cons, List.forall_mem_map, List.forall_mem_append, List.not_mem_nil, encB_def, encN_def, sb, insA, encIns, ins_dec, ins_eta, *]
  intro i hi
  simp only at hi ⊢
  by_cases hlt : i < f.length
  · have hg := getD_encIns hlt
    have g1 : (i : Int) < (f.length : Int) := by omega
    have g3 : IntKind.i64.wrap ((i : Int) + 1) = ((i + 1 : Nat) : Int) := by rw [IntKind.wrap_i64]; omega
    have hct := opCount_take (op := O) hlt
    have hcl3 := opCount_le O (f.take i)
    rw [List.length_take] at hcl3
    generalize opCount O (f.take i) = c at *
    have g4 : IntKind.i64.wrap ((c : Int) + 1) = ((c + 1 : Nat) : Int) := by rw [IntKind.wrap_i64]; omega
    generalize f.getD i noIns = x at *
    replace hcl3 := Hold.mk hcl3
    by_cases hx : x.op = O
    · rw [if_pos hx] at hct
      repeat' (first | simp only [seval, evx, beq_self_eq_true, encB_def, encN_def, sb, insA, encIns, ins_dec, ins_eta, *] | simp (disch := omega) only [if_pos, if_neg] | refine R.seq ?_ | refine LCB.text ?_ | refine LCB.quiet rfl ?_ | refine R.anyX ?_ | refine R.block ?_ | refine LCB.skip ?_ | refine LCB.exit ?_ | refine LCB.ret ?_ | ((first | refine RetOk.val hcl ?_ | refine Weak.at hcl ?_); simp only [seval, evw, List.forall_mem_cons, List.forall_mem_map, List.forall_mem_append, List.not_mem_nil, encB_def, encN_def, sb, insA, encIns, ins_dec, ins_eta, *]) | ((first | refine LCB.cond (by simp only [seval, evx] <;> rfl) ?_ ?_ | refine wpG_split (by simp only [seval, evx] <;> rfl) ?_ ?_ | refine wxG_split (by simp only [seval, evx] <;> rfl) ?_ ?_) <;> (intro hc; try simp only [seval, nf] at hc)) | refine ACalls.inst ?_ | refine CallX.inst ?_ | (with_reducible refine And.intro ?_ ?_) | exact True.intro | refine CallX.pure h1.of ?_ | refine ACalls.pure h1.of ?_ | refine ACalls.pure h2.of ?_ | refine ACalls.pure h3.of ?_)
      refine ⟨i + 1, hlt, by simp only; omega, Weak.at hcl ?_⟩
      simp only [seval, evw, List.forall_mem_cons, List.forall_mem_map, List.forall_mem_append, List.not_mem_nil, encB_def, encN_def, sb, insA, encIns, ins_dec, ins_eta, *]
    · rw [if_neg hx, Nat.add_zero] at hct
      repeat' (first | simp only [seval, evx, beq_self_eq_true, encB_def, encN_def, sb, insA, encIns, ins_dec, ins_eta, *] | simp (disch := omega) only [if_pos, if_neg] | refine R.seq ?_ | refine LCB.text ?_ | refine LCB.quiet rfl ?_ | refine R.anyX ?_ | refine R.block ?_ | refine LCB.skip ?_ | refine LCB.exit ?_ | refine LCB.ret ?_ | ((first | refine RetOk.val hcl ?_ | refine Weak.at hcl ?_); simp only [seval, evw, List.forall_mem_cons, List.forall_mem_map, List.forall_mem_append, List.not_mem_nil, encB_def, encN_def, sb, insA, encIns, ins_dec, ins_eta, *]) | ((first | refine LCB.cond (by simp only [seval, evx] <;> rfl) ?_ ?_ | refine wpG_split (by simp only [seval, evx] <;> rfl) ?_ ?_ | refine wxG_split (by simp only [seval, evx] <;> rfl) ?_ ?_) <;> (intro hc; try simp only [seval, nf] at hc)) | refine ACalls.inst ?_ | refine CallX.inst ?_ | (with_reducible refine And.intro ?_ ?_) | exact True.intro | refine CallX.pure h1.of ?_ | refine ACalls.pure h1.of ?_ | refine ACalls.pure h2.of ?_ | refine ACalls.pure h3.of ?_)
      refine ⟨i + 1, hlt, by simp only; omega, Weak.at hcl ?_⟩
      simp only [seval, evw, List.forall_mem_cons, List.forall_mem_map, List.forall_mem_append, List.not_mem_nil, encB_def, encN_def, sb, insA, encIns, ins_dec, ins_eta, *]
  have hie : i = f.length := by omega
  subst hie
  have g1 : ¬ (f.length : Int) < (f.length : Int) := by omega
  clear hi hlt
  rw [List.take_length]
  generalize hcf : opCount O f = cf at *
  replace hcf := Hold.mk hcf
  repeat' (first | simp only [seval, evx, beq_self_eq_true, encB_def, encN_def, sb, insA, encIns, ins_dec, ins_eta, *] | simp (disch := omega) only [if_pos, if_neg] | refine R.seq ?_ | refine LCB.text ?_ | refine LCB.quiet rfl ?_ | refine R.anyX ?_ | refine R.block ?_ | refine LCB.skip ?_ | refine LCB.exit ?_ | refine LCB.ret ?_ | ((first | refine RetOk.val hcl ?_ | refine Weak.at hcl ?_); simp only [seval, evw, List.forall_mem_cons, List.forall_mem_map, List.forall_mem_append, List.not_mem_nil, encB_def, encN_def, sb, insA, encIns, ins_dec, ins_eta, *]) | ((first | refine LCB.cond (by simp only [seval, evx] <;> rfl) ?_ ?_ | refine wpG_split (by simp only [seval, evx] <;> rfl) ?_ ?_ | refine wxG_split (by simp only [seval, evx] <;> rfl) ?_ ?_) <;> (intro hc; try simp only [seval, nf] at hc)) | refine ACalls.inst ?_ | refine CallX.inst ?_ | (with_reducible refine And.intro ?_ ?_) | exact True.intro | refine CallX.pure h1.of ?_ | refine ACalls.pure h1.of ?_ | refine ACalls.pure h2.of ?_ | refine ACalls.pure h3.of ?_)
  refine R.loop (S := Nat) ⟨fun i => [(0, .list (f.map encIns)), (3, .list (g.map encIns)), (6, .int .i64 6), (7, .int .i64 O), (8, .int .i64 (cf : Int)), (9, .int .i64 (opCount O (g.take i) : Int)), (11, .int .i64 (i : Int))], fun _ => H ++ [], fun i => i ≤ g.length, fun i => g.length - i⟩ 0 (Nat.zero_le _) (Weak.at hcl ?_) ?_
  · have e0 : opCount O [] = 0 := rfl
    simp only [seval, evw, List.forall_mem_cons, List.forall_mem_map, List.forall_mem_append, List.not_mem_nil, encB_def, encN_def, sb, insA, encIns, ins_dec, ins_eta, *]
  clear g1
  intro i hi
  simp only at hi ⊢
  by_cases hlt : i < g.length
  · have hg := getD_encIns hlt
    have g1 : (i : Int) < (g.length : Int) := by omega
    have g3 : IntKind.i64.wrap ((i : Int) + 1) = ((i + 1 : Nat) : Int) := by rw [IntKind.wrap_i64]; omega
    have hct := opCount_take (op := O) hlt
    have hcl3 := opCount_le O (g.take i)
    rw [List.length_take] at hcl3
    generalize opCount O (g.take i) = c at *
    have g4 : IntKind.i64.wrap ((c : Int) + 1) = ((c + 1 : Nat) : Int) := by rw [IntKind.wrap_i64]; omega
    generalize g.getD i noIns = x at *
    replace hcl3 := Hold.mk hcl3
    by_cases hx : x.op = O
    · rw [if_pos hx] at hct
      repeat' (first | simp only [seval, evx, beq_self_eq_true, encB_def, encN_def, sb, insA, encIns, ins_dec, ins_eta, *] | simp (disch := omega) only [if_pos, if_neg] | refine R.seq ?_ | refine LCB.text ?_ | refine LCB.quiet rfl ?_ | refine R.anyX ?_ | refine R.block ?_ | refine LCB.skip ?_ | refine LCB.exit ?_ | refine LCB.ret ?_ | ((first | refine RetOk.val hcl ?_ | refine Weak.at hcl ?_); simp only [seval, evw, List.forall_mem_cons, List.forall_mem_map, List.forall_mem_append, List.not_mem_nil, encB_def, encN_def, sb, insA, encIns, ins_dec, ins_eta, *]) | ((first | refine LCB.cond (by simp only [seval, evx] <;> rfl) ?_ ?_ | refine wpG_split (by simp only [seval, evx] <;> rfl) ?_ ?_ | refine wxG_split (by simp only [seval, evx] <;> rfl) ?_ ?_) <;> (intro hc; try simp only [seval, nf] at hc)) | refine ACalls.inst ?_ | refine CallX.inst ?_ | (with_reducible refine And.intro ?_ ?_) | exact True.intro | refine CallX.pure h1.of ?_ | refine ACalls.pure h1.of ?_ | refine ACalls.pure h2.of ?_ | refine ACalls.pure h3.of ?_)
      refine ⟨i + 1, hlt, by simp only; omega, Weak.at hcl ?_⟩
      simp only [seval, evw, List.forall_mem_cons, List.forall_mem_map, List.forall_mem_append, List.not_mem_nil, encB_def, encN_def, sb, insA, encIns, ins_dec, ins_eta, *]
    · rw [if_neg hx, Nat.add_zero] at hct
      repeat' (first | simp only [seval, evx, beq_self_eq_true, encB_def, encN_def, sb, insA, encIns, ins_dec, ins_eta, *] | simp (disch := omega) only [if_pos, if_neg] | refine R.seq ?_ | refine LCB.text ?_ | refine LCB.quiet rfl ?_ | refine R.anyX ?_ | refine R.block ?_ | refine LCB.skip ?_ | refine LCB.exit ?_ | refine LCB.ret ?_ | ((first | refine RetOk.val hcl ?_ | refine Weak.at hcl ?_); simp only [seval, evw, List.forall_mem_cons, List.forall_mem_map, List.forall_mem_append, List.not_mem_nil, encB_def, encN_def, sb, insA, encIns, ins_dec, ins_eta, *]) | ((first | refine LCB.cond (by simp only [seval, evx] <;> rfl) ?_ ?_ | refine wpG_split (by simp only [seval, evx] <;> rfl) ?_ ?_ | refine wxG_split (by simp only [seval, evx] <;> rfl) ?_ ?_) <;> (intro hc; try simp only [seval, nf] at hc)) | refine ACalls.inst ?_ | refine CallX.inst ?_ | (with_reducible refine And.intro ?_ ?_) | exact True.intro | refine CallX.pure h1.of ?_ | refine ACalls.pure h1.of ?_ | refine ACalls.pure h2.of ?_ | refine ACalls.pure h3.of ?_)
      refine ⟨i + 1, hlt, by simp only; omega, Weak.at hcl ?_⟩
      simp only [seval, evw, List.forall_mem_cons, List.forall_mem_map, List.forall_mem_append, List.not_mem_nil, encB_def, encN_def, sb, insA, encIns, ins_dec, ins_eta, *]
  have hie : i = g.length := by omega
  subst hie
  have g1 : ¬ (g.length : Int) < (g.length : Int) := by omega
  clear hi hlt
  rw [List.take_length]
  have hcnt := hcnt.of
  have lf := lf.of
  have lg := lg.of
  generalize hcg : opCount O g = cg at *
  have g4 : IntKind.i64.wrap ((cf : Int) + 8) = (cf : Int) + 8 := by rw [IntKind.wrap_i64]; omega
  by_cases h2 : O = 2
  · have h5 : ¬ (cg : Int) < (cf : Int) + 8 := by have := hcnt.2 h2; omega
    replace hcnt := Hold.mk hcnt
    clear hcg lf lg
    subst h2
    repeat' (first | simp only [seval, evx, beq_self_eq_true, encB_def, encN_def, sb, insA, encIns, ins_dec, ins_eta, *] | simp (disch := omega) only [if_pos, if_neg] | refine R.seq ?_ | refine LCB.text ?_ | refine LCB.quiet rfl ?_ | refine R.anyX ?_ | refine R.block ?_ | refine LCB.skip ?_ | refine LCB.exit ?_ | refine LCB.ret ?_ | ((first | refine RetOk.val hcl ?_ | refine Weak.at hcl ?_); simp only [seval, evw, List.forall_mem_cons, List.forall_mem_map, List.forall_mem_append, List.not_mem_nil, encB_def, encN_def, sb, insA, encIns, ins_dec, ins_eta, *]) | ((first | refine LCB.cond (by simp only [seval, evx] <;> rfl) ?_ ?_ | refine wpG_split (by simp only [seval, evx] <;> rfl) ?_ ?_ | refine wxG_split (by simp only [seval, evx] <;> rfl) ?_ ?_) <;> (intro hc; try simp only [seval, nf] at hc)) | refine ACalls.inst ?_ | refine CallX.inst ?_ | (with_reducible refine And.intro ?_ ?_) | exact True.intro | refine CallX.pure h1.of ?_ | refine ACalls.pure h1.of ?_ | refine ACalls.pure h2.of ?_ | refine ACalls.pure h3.of ?_)
    refine ⟨o + 1, by simp only; omega, by simp only; omega, Weak.at hcl ?_⟩
    have := hO'.of
    simp only [seval, evw, List.forall_mem_cons, List.forall_mem_map, List.forall_mem_append, List.not_mem_nil, encB_def, encN_def, sb, insA, encIns, ins_dec, ins_eta, *]
    rw [IntKind.wrap_i64]
    omega
  · have h5 : cg = cf := hcnt.1 h2
    replace hcnt := Hold.mk hcnt
    clear hcg lf lg
    subst h5
    repeat' (first | simp only [seval, evx, beq_self_eq_true, encB_def, encN_def, sb, insA, encIns, ins_dec, ins_eta, *] | simp (disch := omega) only [if_pos, if_neg] | refine R.seq ?_ | refine LCB.text ?_ | refine LCB.quiet rfl ?_ | refine R.anyX ?_ | refine R.block ?_ | refine LCB.skip ?_ | refine LCB.exit ?_ | refine LCB.ret ?_ | ((first | refine RetOk.val hcl ?_ | refine Weak.at hcl ?_); simp only [seval, evw, List.forall_mem_cons, List.forall_mem_map, List.forall_mem_append, List.not_mem_nil, encB_def, encN_def, sb, insA, encIns, ins_dec, ins_eta, *]) | ((first | refine LCB.cond (by simp only [seval, evx] <;> rfl) ?_ ?_ | refine wpG_split (by simp only [seval, evx] <;> rfl) ?_ ?_ | refine wxG_split (by simp only [seval, evx] <;> rfl) ?_ ?_) <;> (intro hc; try simp only [seval, nf] at hc)) | refine ACalls.inst ?_ | refine CallX.inst ?_ | (with_reducible refine And.intro ?_ ?_) | exact True.intro | refine CallX.pure h1.of ?_ | refine ACalls.pure h1.of ?_ | refine ACalls.pure h2.of ?_ | refine ACalls.pure h3.of ?_)
    refine ⟨o + 1, by simp only; omega, by simp only; omega, Weak.at hcl ?_⟩
    have := hO'.of
    simp only [seval, evw, List.forall_mem_cons, List.forall_mem_map, List.forall_mem_append, List.not_mem_nil, encB_def, encN_def, sb, insA, encIns, ins_dec, ins_eta, *]

theorem allocSpills_law : ∀ av, FitAs [.one (.list insSh)] av → ACalls Tryd.prog 3 av [] fun r _ => r = .bool true := by
  rintro _ ⟨a, _, rfl, h1, rfl⟩
  obtain ⟨f, rfl, hf, _⟩ := h1.inss
  exact (AllocSpills_ok f).law

set_option maxRecDepth 100000 in
theorem allocSpills_lifted (os : Os) (started : os.Started) (H : Type) (enc : TypeId × Value → H) :
    ReturnsInHanded {} Tryd.checked os 3 .any (fun w args => (Rows.allocSpillsSpec.pre enc Tryd.prog Tryd.f3 [] false w args ∧ laidMetH Tryd.prog laidL w) ∧ sizedMet enc Tryd.prog Tryd.f3 (OpenSpec.ofChange Rows.allocSpillsSpec) false w args)
      (Rows.allocSpillsSpec.post enc Tryd.prog Tryd.f3 false true false false) := by
  refine returnsInHanded_of_change_and (C := Tryd.checked) (X := fun w _ => laidMetH Tryd.prog laidL w) (fun _ _ _ hh h => h.of_heap hh) own_ok started (by kernel_rfl) Tryd.func3
    (ChangeSpec.witness_shaped (enc := enc) (C := Tryd.checked) (os := os) (X := fun w _ => laidMetH Tryd.prog laidL w) false (World.doorLaid Tryd.prog 400 os) #[.slice none 0 0] 8 rfl (World.shaped_of_RefB (by kernel_rfl) (by kernel_rfl)) (by kernel_rfl) (by kernel_rfl) (by kernel_rfl) (door_met os _)) ?_
  intro W base args ds gs before hval0 hW _ _ hL _
  exact law_contract (base := base) laid_ok rfl (by kernel_rfl) (by kernel_rfl) (by kernel_rfl)
    (fun ds hl => by
      match ds, hl with
      | [d1], _ => rfl) (glob_of_laid hL) allocSpills_law hval0 hW

set_option maxRecDepth 100000 in
theorem allocSpills_row : Rows.AllocSpillsSaid :=
  OpenClaim.holds_of_wide 3 Tryd.f3 rfl rfl rfl rfl rfl rfl rfl ⟨rfl, rfl, rfl, rfl, rfl⟩ rfl rfl rfl rfl rfl (by kernel_rfl) Tryd.func3 (by kernel_rfl)
    (of_decide_eq_true (by kernel_rfl)) (by unfold Func.isWrapper; first | (rw [if_pos (by decide +kernel)]; kernel_rfl) | (rw [if_neg (by decide +kernel)]; exact ⟨rfl, rfl⟩))
    (fun os started H enc _ => allocSpills_lifted os started H enc)

set_option maxRecDepth 100000 in
/-- **AllocSpills.** -/
theorem allocSpills_holds : Rows.AllocSpillsCardSaid :=
  Claim7.holds_tied_plain_at .later [] [.data] true (true, "32cd7f34be1f3b1009565b02ab8f35c95574080d302c1bea14865de20bc3ab13") true
    allocSpills_row (fun _ h => by cases h) (by kernel_rfl) (fun _ h => by cases h) allocSpills_row_tie rfl ⟨rfl, rfl⟩ (by kernel_rfl) rfl
    (fun f fn hf hfn => by
      obtain rfl : f = 3 := Option.some.inj ((show Tryd.prog.funcNamed "joinery/joinerylaw23.AllocSpills" = some 3 by kernel_rfl).symm.trans hf) |>.symm
      obtain rfl : fn = Tryd.f3 := (Option.some.inj (Tryd.func3.symm.trans hfn)).symm
      exact ⟨by kernel_rfl, fun j t ht => by
        have hall : (Tryd.f3.params.toList.all fun u => !Tryd.prog.wantsStandIn u) = true := by kernel_rfl
        have hm : t ∈ Tryd.f3.params.toList := by
          have := Array.mem_of_getElem? ht
          simpa using this
        exact (show Tryd.prog.wantsStandIn t = false by simpa using List.all_eq_true.1 hall t hm)⟩)
    (by kernel_rfl)

end Go.Proofs.YtgdopmhgmpkahaaDoor

