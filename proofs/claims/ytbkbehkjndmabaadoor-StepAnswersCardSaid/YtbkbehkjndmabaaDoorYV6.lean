/-
  StepAnswers, of every function, state, answers and more answers: answers behind the one that is next make no difference to a step; nor do those ahead of it.
-/
import Derived.Test.YtbkbehkjndmabaaDoorZ10
namespace Go.Proofs.YtbkbehkjndmabaaDoor
open Go.ChangeShapes Go.WideShapes Go.ChangeAt Go.RowKit
set_option linter.unusedVariables false
set_option linter.unusedSimpArgs false
set_option maxHeartbeats 8000000 in
theorem StepAnswers_ok (f : List Ins) (s : St) (ask more : List Int) (hL : s.L.length = 24) (hask : ask.length ≤ maxLen) (hmore : more.length ≤ maxLen) : Pure Tryd.prog 7 [encFn f, stA s, ints ask, ints more] (.bool true) := by
  intro H
  refine ACalls.go joinerylaw07_StepAnswers.low (by simp) fun hcl => ?_
  have hwl : (wc s.L).length = 48 := by rw [wc_len, hL]
  have hgr := law07_great_ok f s ask hL
  have hAs := law07_As_ok s hL
  have hRR := ref07_Right_ok f s hL
  by_cases hg : greatB f s ask = true
  · rw [hg] at hgr
    rw [stA_eq] at *
    unfold encFn ints at *
    replace hgr := Hold.mk hgr
    clear hAs hRR hmore hask
    repeat' (first | simp only [seval, evx, beq_self_eq_true, sb, ew, insA, ins_dec, ins_eta, evs_eq, encEv_def, List.map_nil, List.length_nil, beq_self_eq_true, *] | simp (disch := omega) only [if_pos, if_neg] | refine R.seq ?_ | refine LCB.text ?_ | refine LCB.quiet rfl ?_ | refine R.anyX ?_ | refine R.block ?_ | refine LCB.skip ?_ | refine LCB.exit ?_ | refine LCB.ret ?_ | ((first | refine RetOk.val hcl ?_ | refine Weak.at hcl ?_); simp only [seval, evw, List.forall_mem_cons, List.forall_mem_map, List.forall_mem_append, List.not_mem_nil, sb, ew, insA, ins_dec, ins_eta, evs_eq, encEv_def, List.map_nil, List.length_nil, beq_self_eq_true, *]) | ((first | refine LCB.cond (by simp only [seval, evx] <;> rfl) ?_ ?_ | refine wpG_split (by simp only [seval, evx] <;> rfl) ?_ ?_ | refine wxG_split (by simp only [seval, evx] <;> rfl) ?_ ?_) <;> (intro hc; try simp only [seval, nf] at hc)) | refine ACalls.inst ?_ | refine CallX.inst ?_ | (with_reducible refine And.intro ?_ ?_) | exact True.intro)
    first | refine ACalls.pure (hgr.of) ?_ | refine CallP.pure (hgr.of) rfl ?_ | refine CallX.pure (hgr.of) ?_
    repeat' (first | simp only [seval, evx, beq_self_eq_true, sb, ew, insA, ins_dec, ins_eta, evs_eq, encEv_def, List.map_nil, List.length_nil, beq_self_eq_true, *] | simp (disch := omega) only [if_pos, if_neg] | refine R.seq ?_ | refine LCB.text ?_ | refine LCB.quiet rfl ?_ | refine R.anyX ?_ | refine R.block ?_ | refine LCB.skip ?_ | refine LCB.exit ?_ | refine LCB.ret ?_ | ((first | refine RetOk.val hcl ?_ | refine Weak.at hcl ?_); simp only [seval, evw, List.forall_mem_cons, List.forall_mem_map, List.forall_mem_append, List.not_mem_nil, sb, ew, insA, ins_dec, ins_eta, evs_eq, encEv_def, List.map_nil, List.length_nil, beq_self_eq_true, *]) | ((first | refine LCB.cond (by simp only [seval, evx] <;> rfl) ?_ ?_ | refine wpG_split (by simp only [seval, evx] <;> rfl) ?_ ?_ | refine wxG_split (by simp only [seval, evx] <;> rfl) ?_ ?_) <;> (intro hc; try simp only [seval, nf] at hc)) | refine ACalls.inst ?_ | refine CallX.inst ?_ | (with_reducible refine And.intro ?_ ?_) | exact True.intro)
  obtain ⟨q1, q2, q3⟩ := great_not hg
  have hg2 : greatB f s ask = false := by simpa using hg
  rw [hg2] at hgr
  clear hg hg2
  by_cases hm : (1000 : Int) < (more.length : Int)
  · simp only [stA_eq, rsA_eq] at *
    unfold encFn ints at *
    replace hgr := Hold.mk hgr
    clear q1 q2 q3 hL hask hmore hAs hRR
    repeat' (first | simp only [seval, evx, beq_self_eq_true, sb, ew, insA, ins_dec, ins_eta, evs_eq, encEv_def, List.map_nil, List.length_nil, beq_self_eq_true, *] | simp (disch := omega) only [if_pos, if_neg] | refine R.seq ?_ | refine LCB.text ?_ | refine LCB.quiet rfl ?_ | refine R.anyX ?_ | refine R.block ?_ | refine LCB.skip ?_ | refine LCB.exit ?_ | refine LCB.ret ?_ | ((first | refine RetOk.val hcl ?_ | refine Weak.at hcl ?_); simp only [seval, evw, List.forall_mem_cons, List.forall_mem_map, List.forall_mem_append, List.not_mem_nil, sb, ew, insA, ins_dec, ins_eta, evs_eq, encEv_def, List.map_nil, List.length_nil, beq_self_eq_true, *]) | ((first | refine LCB.cond (by simp only [seval, evx] <;> rfl) ?_ ?_ | refine wpG_split (by simp only [seval, evx] <;> rfl) ?_ ?_ | refine wxG_split (by simp only [seval, evx] <;> rfl) ?_ ?_) <;> (intro hc; try simp only [seval, nf] at hc)) | refine ACalls.inst ?_ | refine CallX.inst ?_ | (with_reducible refine And.intro ?_ ?_) | exact True.intro)
    first | refine ACalls.pure (hgr.of) ?_ | refine CallP.pure (hgr.of) rfl ?_ | refine CallX.pure (hgr.of) ?_
    repeat' (first | simp only [seval, evx, beq_self_eq_true, sb, ew, insA, ins_dec, ins_eta, evs_eq, encEv_def, List.map_nil, List.length_nil, beq_self_eq_true, *] | simp (disch := omega) only [if_pos, if_neg] | refine R.seq ?_ | refine LCB.text ?_ | refine LCB.quiet rfl ?_ | refine R.anyX ?_ | refine R.block ?_ | refine LCB.skip ?_ | refine LCB.exit ?_ | refine LCB.ret ?_ | ((first | refine RetOk.val hcl ?_ | refine Weak.at hcl ?_); simp only [seval, evw, List.forall_mem_cons, List.forall_mem_map, List.forall_mem_append, List.not_mem_nil, sb, ew, insA, ins_dec, ins_eta, evs_eq, encEv_def, List.map_nil, List.length_nil, beq_self_eq_true, *]) | ((first | refine LCB.cond (by simp only [seval, evx] <;> rfl) ?_ ?_ | refine wpG_split (by simp only [seval, evx] <;> rfl) ?_ ?_ | refine wxG_split (by simp only [seval, evx] <;> rfl) ?_ ?_) <;> (intro hc; try simp only [seval, nf] at hc)) | refine ACalls.inst ?_ | refine CallX.inst ?_ | (with_reducible refine And.intro ?_ ?_) | exact True.intro)
  have hdo := step_Do_ok f s ask hL (by omega)
  have hdo2 := step_Do_ok f s (ask ++ more) hL (by simp; omega)
  unfold stepA at hdo hdo2
  by_cases hr : stRight f s = true
  · rw [if_pos hr] at hdo hdo2
    rw [hr] at hRR
    have hasked : 0 ≤ s.asked := (stRight_iff.1 hr).2.2.2.2.1
    have p1 := stepF_more (f := f) (ask := ask) (more := more) hasked
    have p2 := stepF_ends (f := f) (s := s) (ask := ask)
    have hl1 := stepF_len f s ask
    have hl2 := stepF_heap f s ask
    have hl3 := stepF_out f s ask
    have hl4 := stepF_evs f s ask
    have hl1' := stepF_len f s (ask ++ more)
    have rk1 : rowsOk 1 (ask.map encI) = true := rk_map fun x _ => ⟨rfl, rfl⟩
    have rk2 : rowsOk 1 (more.map encI) = true := rk_map fun x _ => ⟨rfl, rfl⟩
    have b1 : ask.length * 8 ≤ 140737488355328 := by omega
    have b2 : ask.length ≤ 9223372036854775807 := by omega
    have b3 : (ask.length + more.length) * 8 ≤ 140737488355328 := by omega
    have b4 : ask.length + more.length ≤ 9223372036854775807 := by omega
    have b5 : (0 + ask.length) * 8 ≤ 140737488355328 := by omega
    by_cases h5 : (stepF f s ask).2.2.how = 5
    · have h2 := (p2 (by omega)).2.1
      generalize stepF f s ask = r at *
      generalize stepF f s (ask ++ more) = r2 at *
      obtain ⟨s', ev, o⟩ := r
      obtain ⟨s'', ev', o'⟩ := r2
      simp only at hdo hdo2 hl1 hl2 hl3 hl4 hl1' h5 h2
      subst h2
      have hwl' : (wc s'.L).length = 48 := by rw [wc_len, hl1, hL]
      have hwl'' : (wc s''.L).length = 48 := by rw [wc_len, hl1', hL]
      simp only [stA_eq, rsA_eq, outA_eq, evs_eq] at *
      unfold encFn ints at *
      rw [List.map_append] at hdo2
      replace hgr := Hold.mk hgr
      replace hRR := Hold.mk hRR
      replace hAs := Hold.mk hAs
      replace hdo := Hold.mk hdo
      replace hdo2 := Hold.mk hdo2
      have hAsx := Hold.mk hgr
      have hS := Hold.mk hgr
      have hSE := Hold.mk hgr
      have hSO := Hold.mk hgr
      clear hl1 hl2 hl3 hl4 hl1' hr q1 q2 q3 hL hask hmore p1 p2 hasked
      (refine R.seq ?_; refine LCB.text ?_; repeat' (first | simp only [seval, evx, beq_self_eq_true, sb, ew, insA, ins_dec, ins_eta, evs_eq, encEv_def, List.map_nil, List.length_nil, beq_self_eq_true, *] | simp (disch := omega) only [if_pos, if_neg]))
      refine R.cut [(0, .list (f.map encIns)), (2, .list (ask.map encI)), (3, .list (more.map encI)), (5, .ptr H.length 1 0 0)] (H ++ [.vec 51 [wc s.L ++ [.list (s.heap.map encI), .int .i64 s.pc, .int .i64 s.asked]]]) ?_ ?_
      · repeat' (first | simp only [seval, evx, beq_self_eq_true, sb, ew, insA, ins_dec, ins_eta, evs_eq, encEv_def, List.map_nil, List.length_nil, beq_self_eq_true, *] | simp (disch := omega) only [if_pos, if_neg] | refine R.seq ?_ | refine LCB.text ?_ | refine LCB.quiet rfl ?_ | refine R.anyX ?_ | refine R.block ?_ | refine LCB.skip ?_ | refine LCB.exit ?_ | refine LCB.ret ?_ | ((first | refine RetOk.val hcl ?_ | refine Weak.at hcl ?_); simp only [seval, evw, List.forall_mem_cons, List.forall_mem_map, List.forall_mem_append, List.not_mem_nil, sb, ew, insA, ins_dec, ins_eta, evs_eq, encEv_def, List.map_nil, List.length_nil, beq_self_eq_true, *]) | ((first | refine LCB.cond (by simp only [seval, evx] <;> rfl) ?_ ?_ | refine wpG_split (by simp only [seval, evx] <;> rfl) ?_ ?_ | refine wxG_split (by simp only [seval, evx] <;> rfl) ?_ ?_) <;> (intro hc; try simp only [seval, nf] at hc)) | refine ACalls.inst ?_ | refine CallX.inst ?_ | (with_reducible refine And.intro ?_ ?_) | exact True.intro | refine ACalls.pure hgr.of ?_ | refine CallX.pure hgr.of ?_ | refine ACalls.pure hdo.of ?_ | refine CallX.pure hdo.of ?_ | refine ACalls.pure hAs.of ?_ | refine CallX.pure hAs.of ?_ | refine ACalls.pure hRR.of ?_ | refine CallX.pure hRR.of ?_ | refine ACalls.pure hdo2.of ?_ | refine CallX.pure hdo2.of ?_ | refine ACalls.pure hAsx.of ?_ | refine CallX.pure hAsx.of ?_ | refine ACalls.pure hS.of ?_ | refine CallX.pure hS.of ?_ | refine ACalls.pure hSE.of ?_ | refine CallX.pure hSE.of ?_ | refine ACalls.pure hSO.of ?_ | refine CallX.pure hSO.of ?_)
      refine R.cut [(0, .list (f.map encIns)), (2, .list (ask.map encI)), (5, .ptr H.length 1 0 0), (9, .list (ask.map encI ++ more.map encI))] (H ++ [.vec 51 [wc s.L ++ [.list (s.heap.map encI), .int .i64 s.pc, .int .i64 s.asked]]]) ?_ ?_
      · repeat' (first | simp only [seval, evx, beq_self_eq_true, sb, ew, insA, ins_dec, ins_eta, evs_eq, encEv_def, List.map_nil, List.length_nil, beq_self_eq_true, *] | simp (disch := omega) only [if_pos, if_neg] | refine R.seq ?_ | refine LCB.text ?_ | refine LCB.quiet rfl ?_ | refine R.anyX ?_ | refine R.block ?_ | refine LCB.skip ?_ | refine LCB.exit ?_ | refine LCB.ret ?_ | ((first | refine RetOk.val hcl ?_ | refine Weak.at hcl ?_); simp only [seval, evw, List.forall_mem_cons, List.forall_mem_map, List.forall_mem_append, List.not_mem_nil, sb, ew, insA, ins_dec, ins_eta, evs_eq, encEv_def, List.map_nil, List.length_nil, beq_self_eq_true, *]) | ((first | refine LCB.cond (by simp only [seval, evx] <;> rfl) ?_ ?_ | refine wpG_split (by simp only [seval, evx] <;> rfl) ?_ ?_ | refine wxG_split (by simp only [seval, evx] <;> rfl) ?_ ?_) <;> (intro hc; try simp only [seval, nf] at hc)) | refine ACalls.inst ?_ | refine CallX.inst ?_ | (with_reducible refine And.intro ?_ ?_) | exact True.intro | refine ACalls.pure hgr.of ?_ | refine CallX.pure hgr.of ?_ | refine ACalls.pure hdo.of ?_ | refine CallX.pure hdo.of ?_ | refine ACalls.pure hAs.of ?_ | refine CallX.pure hAs.of ?_ | refine ACalls.pure hRR.of ?_ | refine CallX.pure hRR.of ?_ | refine ACalls.pure hdo2.of ?_ | refine CallX.pure hdo2.of ?_ | refine ACalls.pure hAsx.of ?_ | refine CallX.pure hAsx.of ?_ | refine ACalls.pure hS.of ?_ | refine CallX.pure hS.of ?_ | refine ACalls.pure hSE.of ?_ | refine CallX.pure hSE.of ?_ | refine ACalls.pure hSO.of ?_ | refine CallX.pure hSO.of ?_)
        all_goals exact (List.take_of_length_le (by simp)).symm
      repeat' (first | simp only [seval, evx, beq_self_eq_true, sb, ew, insA, ins_dec, ins_eta, evs_eq, encEv_def, List.map_nil, List.length_nil, beq_self_eq_true, *] | simp (disch := omega) only [if_pos, if_neg] | refine R.seq ?_ | refine LCB.text ?_ | refine LCB.quiet rfl ?_ | refine R.anyX ?_ | refine R.block ?_ | refine LCB.skip ?_ | refine LCB.exit ?_ | refine LCB.ret ?_ | ((first | refine RetOk.val hcl ?_ | refine Weak.at hcl ?_); simp only [seval, evw, List.forall_mem_cons, List.forall_mem_map, List.forall_mem_append, List.not_mem_nil, sb, ew, insA, ins_dec, ins_eta, evs_eq, encEv_def, List.map_nil, List.length_nil, beq_self_eq_true, *]) | ((first | refine LCB.cond (by simp only [seval, evx] <;> rfl) ?_ ?_ | refine wpG_split (by simp only [seval, evx] <;> rfl) ?_ ?_ | refine wxG_split (by simp only [seval, evx] <;> rfl) ?_ ?_) <;> (intro hc; try simp only [seval, nf] at hc)) | refine ACalls.inst ?_ | refine CallX.inst ?_ | (with_reducible refine And.intro ?_ ?_) | exact True.intro | refine ACalls.pure hgr.of ?_ | refine CallX.pure hgr.of ?_ | refine ACalls.pure hdo.of ?_ | refine CallX.pure hdo.of ?_ | refine ACalls.pure hAs.of ?_ | refine CallX.pure hAs.of ?_ | refine ACalls.pure hRR.of ?_ | refine CallX.pure hRR.of ?_ | refine ACalls.pure hdo2.of ?_ | refine CallX.pure hdo2.of ?_ | refine ACalls.pure hAsx.of ?_ | refine CallX.pure hAsx.of ?_ | refine ACalls.pure hS.of ?_ | refine CallX.pure hS.of ?_ | refine ACalls.pure hSE.of ?_ | refine CallX.pure hSE.of ?_ | refine ACalls.pure hSO.of ?_ | refine CallX.pure hSO.of ?_)
    · have h2 := p1 h5
      rw [h2] at hdo2
      generalize stepF f s ask = r at *
      obtain ⟨s', ev, o⟩ := r
      simp only at hdo hdo2 hl1 hl2 hl3 hl4 h5
      have hwl' : (wc s'.L).length = 48 := by rw [wc_len, hl1, hL]
      have hAsx := law07_As_ok s' (by rw [hl1, hL])
      have hS := ref07_Same_ok s' s' (by rw [hl1, hL]) (by rw [hl1, hL]) (by omega)
      have hSE := ref07_SameEvents_ok ev ev (by omega)
      have hSO := ref07_SameOutcome_ok o o (by omega)
      rw [decide_eq_true rfl] at hS hSE hSO
      simp only [stA_eq, rsA_eq, outA_eq, evs_eq] at *
      unfold encFn ints at *
      rw [List.map_append] at hdo2
      replace hgr := Hold.mk hgr
      replace hRR := Hold.mk hRR
      replace hAs := Hold.mk hAs
      replace hdo := Hold.mk hdo
      replace hdo2 := Hold.mk hdo2
      replace hAsx := Hold.mk hAsx
      replace hS := Hold.mk hS
      replace hSE := Hold.mk hSE
      replace hSO := Hold.mk hSO
      clear hl1 hl2 hl3 hl4 hl1' hr q1 q2 q3 hL hask hmore p1 p2 hasked h2
      (refine R.seq ?_; refine LCB.text ?_; repeat' (first | simp only [seval, evx, beq_self_eq_true, sb, ew, insA, ins_dec, ins_eta, evs_eq, encEv_def, List.map_nil, List.length_nil, beq_self_eq_true, *] | simp (disch := omega) only [if_pos, if_neg]))
      refine R.cut [(0, .list (f.map encIns)), (2, .list (ask.map encI)), (3, .list (more.map encI)), (5, .ptr H.length 1 0 0)] (H ++ [.vec 51 [wc s.L ++ [.list (s.heap.map encI), .int .i64 s.pc, .int .i64 s.asked]]]) ?_ ?_
      · repeat' (first | simp only [seval, evx, beq_self_eq_true, sb, ew, insA, ins_dec, ins_eta, evs_eq, encEv_def, List.map_nil, List.length_nil, beq_self_eq_true, *] | simp (disch := omega) only [if_pos, if_neg] | refine R.seq ?_ | refine LCB.text ?_ | refine LCB.quiet rfl ?_ | refine R.anyX ?_ | refine R.block ?_ | refine LCB.skip ?_ | refine LCB.exit ?_ | refine LCB.ret ?_ | ((first | refine RetOk.val hcl ?_ | refine Weak.at hcl ?_); simp only [seval, evw, List.forall_mem_cons, List.forall_mem_map, List.forall_mem_append, List.not_mem_nil, sb, ew, insA, ins_dec, ins_eta, evs_eq, encEv_def, List.map_nil, List.length_nil, beq_self_eq_true, *]) | ((first | refine LCB.cond (by simp only [seval, evx] <;> rfl) ?_ ?_ | refine wpG_split (by simp only [seval, evx] <;> rfl) ?_ ?_ | refine wxG_split (by simp only [seval, evx] <;> rfl) ?_ ?_) <;> (intro hc; try simp only [seval, nf] at hc)) | refine ACalls.inst ?_ | refine CallX.inst ?_ | (with_reducible refine And.intro ?_ ?_) | exact True.intro | refine ACalls.pure hgr.of ?_ | refine CallX.pure hgr.of ?_ | refine ACalls.pure hdo.of ?_ | refine CallX.pure hdo.of ?_ | refine ACalls.pure hAs.of ?_ | refine CallX.pure hAs.of ?_ | refine ACalls.pure hRR.of ?_ | refine CallX.pure hRR.of ?_ | refine ACalls.pure hdo2.of ?_ | refine CallX.pure hdo2.of ?_ | refine ACalls.pure hAsx.of ?_ | refine CallX.pure hAsx.of ?_ | refine ACalls.pure hS.of ?_ | refine CallX.pure hS.of ?_ | refine ACalls.pure hSE.of ?_ | refine CallX.pure hSE.of ?_ | refine ACalls.pure hSO.of ?_ | refine CallX.pure hSO.of ?_)
      refine R.cut [(0, .list (f.map encIns)), (2, .list (ask.map encI)), (5, .ptr H.length 1 0 0), (9, .list (ask.map encI ++ more.map encI))] (H ++ [.vec 51 [wc s.L ++ [.list (s.heap.map encI), .int .i64 s.pc, .int .i64 s.asked]]]) ?_ ?_
      · repeat' (first | simp only [seval, evx, beq_self_eq_true, sb, ew, insA, ins_dec, ins_eta, evs_eq, encEv_def, List.map_nil, List.length_nil, beq_self_eq_true, *] | simp (disch := omega) only [if_pos, if_neg] | refine R.seq ?_ | refine LCB.text ?_ | refine LCB.quiet rfl ?_ | refine R.anyX ?_ | refine R.block ?_ | refine LCB.skip ?_ | refine LCB.exit ?_ | refine LCB.ret ?_ | ((first | refine RetOk.val hcl ?_ | refine Weak.at hcl ?_); simp only [seval, evw, List.forall_mem_cons, List.forall_mem_map, List.forall_mem_append, List.not_mem_nil, sb, ew, insA, ins_dec, ins_eta, evs_eq, encEv_def, List.map_nil, List.length_nil, beq_self_eq_true, *]) | ((first | refine LCB.cond (by simp only [seval, evx] <;> rfl) ?_ ?_ | refine wpG_split (by simp only [seval, evx] <;> rfl) ?_ ?_ | refine wxG_split (by simp only [seval, evx] <;> rfl) ?_ ?_) <;> (intro hc; try simp only [seval, nf] at hc)) | refine ACalls.inst ?_ | refine CallX.inst ?_ | (with_reducible refine And.intro ?_ ?_) | exact True.intro | refine ACalls.pure hgr.of ?_ | refine CallX.pure hgr.of ?_ | refine ACalls.pure hdo.of ?_ | refine CallX.pure hdo.of ?_ | refine ACalls.pure hAs.of ?_ | refine CallX.pure hAs.of ?_ | refine ACalls.pure hRR.of ?_ | refine CallX.pure hRR.of ?_ | refine ACalls.pure hdo2.of ?_ | refine CallX.pure hdo2.of ?_ | refine ACalls.pure hAsx.of ?_ | refine CallX.pure hAsx.of ?_ | refine ACalls.pure hS.of ?_ | refine CallX.pure hS.of ?_ | refine ACalls.pure hSE.of ?_ | refine CallX.pure hSE.of ?_ | refine ACalls.pure hSO.of ?_ | refine CallX.pure hSO.of ?_)
        all_goals exact (List.take_of_length_le (by simp)).symm
      repeat' (first | simp only [seval, evx, beq_self_eq_true, sb, ew, insA, ins_dec, ins_eta, evs_eq, encEv_def, List.map_nil, List.length_nil, beq_self_eq_true, *] | simp (disch := omega) only [if_pos, if_neg] | refine R.seq ?_ | refine LCB.text ?_ | refine LCB.quiet rfl ?_ | refine R.anyX ?_ | refine R.block ?_ | refine LCB.skip ?_ | refine LCB.exit ?_ | refine LCB.ret ?_ | ((first | refine RetOk.val hcl ?_ | refine Weak.at hcl ?_); simp only [seval, evw, List.forall_mem_cons, List.forall_mem_map, List.forall_mem_append, List.not_mem_nil, sb, ew, insA, ins_dec, ins_eta, evs_eq, encEv_def, List.map_nil, List.length_nil, beq_self_eq_true, *]) | ((first | refine LCB.cond (by simp only [seval, evx] <;> rfl) ?_ ?_ | refine wpG_split (by simp only [seval, evx] <;> rfl) ?_ ?_ | refine wxG_split (by simp only [seval, evx] <;> rfl) ?_ ?_) <;> (intro hc; try simp only [seval, nf] at hc)) | refine ACalls.inst ?_ | refine CallX.inst ?_ | (with_reducible refine And.intro ?_ ?_) | exact True.intro | refine ACalls.pure hgr.of ?_ | refine CallX.pure hgr.of ?_ | refine ACalls.pure hdo.of ?_ | refine CallX.pure hdo.of ?_ | refine ACalls.pure hAs.of ?_ | refine CallX.pure hAs.of ?_ | refine ACalls.pure hRR.of ?_ | refine CallX.pure hRR.of ?_ | refine ACalls.pure hdo2.of ?_ | refine CallX.pure hdo2.of ?_ | refine ACalls.pure hAsx.of ?_ | refine CallX.pure hAsx.of ?_ | refine ACalls.pure hS.of ?_ | refine CallX.pure hS.of ?_ | refine ACalls.pure hSE.of ?_ | refine CallX.pure hSE.of ?_ | refine ACalls.pure hSO.of ?_ | refine CallX.pure hSO.of ?_)
  · have hr2 : stRight f s = false := by simpa using hr
    rw [hr2] at hRR
    have hS := Hold.mk hRR
    have hAsx := Hold.mk hRR
    have hSE := Hold.mk hRR
    have hSO := Hold.mk hRR
    clear hdo hdo2
    have hdo := Hold.mk hRR
    have hdo2 := Hold.mk hRR
    simp only [stA_eq, rsA_eq] at *
    unfold encFn ints at *
    replace hgr := Hold.mk hgr
    replace hRR := Hold.mk hRR
    replace hAs := Hold.mk hAs
    clear hr hr2 q1 q2 q3 hL hask hmore
    repeat' (first | simp only [seval, evx, beq_self_eq_true, sb, ew, insA, ins_dec, ins_eta, evs_eq, encEv_def, List.map_nil, List.length_nil, beq_self_eq_true, *] | simp (disch := omega) only [if_pos, if_neg] | refine R.seq ?_ | refine LCB.text ?_ | refine LCB.quiet rfl ?_ | refine R.anyX ?_ | refine R.block ?_ | refine LCB.skip ?_ | refine LCB.exit ?_ | refine LCB.ret ?_ | ((first | refine RetOk.val hcl ?_ | refine Weak.at hcl ?_); simp only [seval, evw, List.forall_mem_cons, List.forall_mem_map, List.forall_mem_append, List.not_mem_nil, sb, ew, insA, ins_dec, ins_eta, evs_eq, encEv_def, List.map_nil, List.length_nil, beq_self_eq_true, *]) | ((first | refine LCB.cond (by simp only [seval, evx] <;> rfl) ?_ ?_ | refine wpG_split (by simp only [seval, evx] <;> rfl) ?_ ?_ | refine wxG_split (by simp only [seval, evx] <;> rfl) ?_ ?_) <;> (intro hc; try simp only [seval, nf] at hc)) | refine ACalls.inst ?_ | refine CallX.inst ?_ | (with_reducible refine And.intro ?_ ?_) | exact True.intro | refine ACalls.pure hgr.of ?_ | refine CallX.pure hgr.of ?_ | refine ACalls.pure hdo.of ?_ | refine CallX.pure hdo.of ?_ | refine ACalls.pure hAs.of ?_ | refine CallX.pure hAs.of ?_ | refine ACalls.pure hRR.of ?_ | refine CallX.pure hRR.of ?_ | refine ACalls.pure hdo2.of ?_ | refine CallX.pure hdo2.of ?_ | refine ACalls.pure hAsx.of ?_ | refine CallX.pure hAsx.of ?_ | refine ACalls.pure hS.of ?_ | refine CallX.pure hS.of ?_ | refine ACalls.pure hSE.of ?_ | refine CallX.pure hSE.of ?_ | refine ACalls.pure hSO.of ?_ | refine CallX.pure hSO.of ?_)

theorem stepAnswers_law : ∀ av, FitAs [.one (.list insSh), .agg stSh, .one (.list [.int .i64]), .one (.list [.int .i64])] av → ACalls Tryd.prog 7 av [] fun r _ => r = .bool true := by
  rintro _ ⟨a, _, rfl, h1, b, _, rfl, h2, c, _, rfl, h3, d, _, rfl, h4, rfl⟩
  obtain ⟨f, rfl, hf, _⟩ := h1.inss
  obtain ⟨s, rfl, hs, _⟩ := h2.st
  obtain ⟨l, rfl, _, hl⟩ := h3.ints
  obtain ⟨m, rfl, _, hm⟩ := h4.ints
  exact (StepAnswers_ok f s l m hs hl hm).law

set_option maxRecDepth 100000 in
theorem stepAnswers_lifted (os : Os) (started : os.Started) (H : Type) (enc : TypeId × Value → H) :
    ReturnsInHanded {} Tryd.checked os 7 .any (fun w args => (Rows.stepAnswersSpec.pre enc Tryd.prog Tryd.f7 [] false w args ∧ laidMetH Tryd.prog laidL w) ∧ sizedMet enc Tryd.prog Tryd.f7 (OpenSpec.ofChange Rows.stepAnswersSpec) false w args)
      (Rows.stepAnswersSpec.post enc Tryd.prog Tryd.f7 false true false false) := by
  refine returnsInHanded_of_change_and (C := Tryd.checked) (X := fun w _ => laidMetH Tryd.prog laidL w) (fun _ _ _ hh h => h.of_heap hh) own_ok started (by kernel_rfl) Tryd.func7
    (ChangeSpec.witness_shaped (enc := enc) (C := Tryd.checked) (os := os) (X := fun w _ => laidMetH Tryd.prog laidL w) false (World.doorLaid Tryd.prog 400 os) #[.slice none 0 0, (.agg #[.bool false, .int .i64 0, .bool false, .int .i64 0, .bool false, .int .i64 0, .bool false, .int .i64 0, .bool false, .int .i64 0, .bool false, .int .i64 0, .bool false, .int .i64 0, .bool false, .int .i64 0, .bool false, .int .i64 0, .bool false, .int .i64 0, .bool false, .int .i64 0, .bool false, .int .i64 0, .bool false, .int .i64 0, .bool false, .int .i64 0, .bool false, .int .i64 0, .bool false, .int .i64 0, .bool false, .int .i64 0, .bool false, .int .i64 0, .bool false, .int .i64 0, .bool false, .int .i64 0, .bool false, .int .i64 0, .bool false, .int .i64 0, .bool false, .int .i64 0, .bool false, .int .i64 0, .slice none 0 0, .int .i64 0, .int .i64 0]), .slice none 0 0, .slice none 0 0] 8 rfl (World.shaped_of_RefB (by kernel_rfl) (by kernel_rfl)) (by kernel_rfl) (by kernel_rfl) (by kernel_rfl) (door_met os _)) ?_
  intro W base args ds gs before hval0 hW _ _ hL _
  exact law_contract (base := base) laid_ok rfl (by kernel_rfl) (by kernel_rfl) (by kernel_rfl)
    (fun ds hl => by
      match ds, hl with
      | [d1, d2, d3, d4], _ => rfl) (glob_of_laid hL) stepAnswers_law hval0 hW

set_option maxRecDepth 100000 in
theorem stepAnswers_row : Rows.StepAnswersSaid :=
  OpenClaim.holds_of_wide 7 Tryd.f7 rfl rfl rfl rfl rfl rfl rfl ⟨rfl, rfl, rfl, rfl, rfl⟩ rfl rfl rfl rfl rfl (by kernel_rfl) Tryd.func7 (by kernel_rfl)
    (of_decide_eq_true (by kernel_rfl)) (by unfold Func.isWrapper; first | (rw [if_pos (by decide +kernel)]; kernel_rfl) | (rw [if_neg (by decide +kernel)]; exact ⟨rfl, rfl⟩))
    (fun os started H enc _ => stepAnswers_lifted os started H enc)

set_option maxRecDepth 100000 in
/-- **StepAnswers.** -/
theorem stepAnswers_holds : Rows.StepAnswersCardSaid :=
  Claim7.holds_tied_plain_at .later [] [.data] true (true, "bfd71dfb10269e8ba6e027be74d69a4e50b0edb49cced56766909c0e9f3902d6") false
    stepAnswers_row (fun _ h => by cases h) (by kernel_rfl) (fun _ h => by cases h) stepAnswers_row_tie rfl ⟨rfl, rfl⟩ (by kernel_rfl) rfl
    (fun f fn hf hfn => by
      obtain rfl : f = 7 := Option.some.inj ((show Tryd.prog.funcNamed "joinery/joinerylaw07.StepAnswers" = some 7 by kernel_rfl).symm.trans hf) |>.symm
      obtain rfl : fn = Tryd.f7 := (Option.some.inj (Tryd.func7.symm.trans hfn)).symm
      exact ⟨by kernel_rfl, fun j t ht => by
        have hall : (Tryd.f7.params.toList.all fun u => !Tryd.prog.wantsStandIn u) = true := by kernel_rfl
        have hm : t ∈ Tryd.f7.params.toList := by
          have := Array.mem_of_getElem? ht
          simpa using this
        exact (show Tryd.prog.wantsStandIn t = false by simpa using List.all_eq_true.1 hall t hm)⟩)
    (by kernel_rfl)
end Go.Proofs.YtbkbehkjndmabaaDoor
