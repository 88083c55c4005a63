/-
  RunAnswers, of every function and case and more answers.
-/
import Derived.Test.YtbkbehkjndmabaaDoorZ10
namespace Go.Proofs.YtbkbehkjndmabaaDoor
open Go.ChangeShapes Go.WideShapes Go.ChangeAt Go.RowKit
set_option linter.unusedVariables false
set_option linter.unusedSimpArgs false
set_option maxHeartbeats 8000000 in
theorem RunAnswers_ok (f : List Ins) (c : Cs) (more : List Int) (hmore : more.length ≤ maxLen) (hR : c.R.length = 8) : Pure Tryd.prog 13 [encFn f, csA c, ints more] (.bool true) := by
  intro H
  refine ACalls.go joinerylaw08_RunAnswers.low (by simp) fun hcl => ?_
  have hil : (ic c.R).length = 8 := by rw [ic_len, hR]
  have hgr := law08_Great_ok f c hR
  have hF := ref08_Fair_ok f c hR
  by_cases hg : csGreat f c = true
  · rw [hg] at hgr
    rw [csA_eq] at *
    unfold encFn ints at *
    clear hg hF
    replace hgr := Hold.mk hgr
    replace hR := Hold.mk hR
    repeat' (first | simp only [seval, evx, beq_self_eq_true, sb, ew, ec, evs_eq, encEv_def, List.map_nil, List.length_nil, beq_self_eq_true, *] | simp (disch := omega) only [if_pos, if_neg] | refine R.seq ?_ | refine LCB.text ?_ | refine LCB.quiet rfl ?_ | refine R.anyX ?_ | refine R.block ?_ | refine LCB.skip ?_ | refine LCB.exit ?_ | refine LCB.ret ?_ | ((first | refine RetOk.val hcl ?_ | refine Weak.at hcl ?_); simp only [seval, evw, List.forall_mem_cons, List.forall_mem_map, List.forall_mem_append, List.not_mem_nil, sb, ew, ec, evs_eq, encEv_def, List.map_nil, List.length_nil, beq_self_eq_true, *]) | ((first | refine LCB.cond (by simp only [seval, evx] <;> rfl) ?_ ?_ | refine wpG_split (by simp only [seval, evx] <;> rfl) ?_ ?_ | refine wxG_split (by simp only [seval, evx] <;> rfl) ?_ ?_) <;> (intro hc; try simp only [seval, nf] at hc)) | refine ACalls.inst ?_ | refine CallX.inst ?_ | (with_reducible refine And.intro ?_ ?_) | exact True.intro | refine ACalls.pure hgr.of ?_ | refine CallX.pure hgr.of ?_ | refine ACalls.pure hrun.of ?_ | refine CallX.pure hrun.of ?_ | refine ACalls.pure hrun2.of ?_ | refine CallX.pure hrun2.of ?_ | refine ACalls.pure hAs.of ?_ | refine CallX.pure hAs.of ?_ | refine ACalls.pure hB.of ?_ | refine CallX.pure hB.of ?_ | refine ACalls.pure hS.of ?_ | refine CallX.pure hS.of ?_ | refine ACalls.pure hF.of ?_ | refine CallX.pure hF.of ?_ | refine ACalls.pure hSame.of ?_ | refine CallX.pure hSame.of ?_ | refine ACalls.pure hAs2.of ?_ | refine CallX.pure hAs2.of ?_ | refine ACalls.pure hS2.of ?_ | refine CallX.pure hS2.of ?_ | refine ACalls.pure hBe.of ?_ | refine CallX.pure hBe.of ?_ | refine ACalls.pure hOn.of ?_ | refine CallX.pure hOn.of ?_ | refine ACalls.pure hRF.of ?_ | refine CallX.pure hRF.of ?_)
  obtain ⟨q1, q2, q3, q4⟩ := great8_not hg
  have hg2 : csGreat f c = false := by simpa using hg
  rw [hg2] at hgr
  clear hg hg2
  rw [maxLen_def] at hmore
  by_cases hbig : (1000 : Int) < (more.length : Int)
  · have hbig2 : (more.length : Int) > 1000 := hbig
    rw [csA_eq] at *
    unfold encFn ints at *
    clear hF
    replace hgr := Hold.mk hgr
    replace hR := Hold.mk hR
    repeat' (first | simp only [seval, evx, beq_self_eq_true, sb, ew, ec, evs_eq, encEv_def, List.map_nil, List.length_nil, beq_self_eq_true, *] | simp (disch := omega) only [if_pos, if_neg] | refine R.seq ?_ | refine LCB.text ?_ | refine LCB.quiet rfl ?_ | refine R.anyX ?_ | refine R.block ?_ | refine LCB.skip ?_ | refine LCB.exit ?_ | refine LCB.ret ?_ | ((first | refine RetOk.val hcl ?_ | refine Weak.at hcl ?_); simp only [seval, evw, List.forall_mem_cons, List.forall_mem_map, List.forall_mem_append, List.not_mem_nil, sb, ew, ec, evs_eq, encEv_def, List.map_nil, List.length_nil, beq_self_eq_true, *]) | ((first | refine LCB.cond (by simp only [seval, evx] <;> rfl) ?_ ?_ | refine wpG_split (by simp only [seval, evx] <;> rfl) ?_ ?_ | refine wxG_split (by simp only [seval, evx] <;> rfl) ?_ ?_) <;> (intro hc; try simp only [seval, nf] at hc)) | refine ACalls.inst ?_ | refine CallX.inst ?_ | (with_reducible refine And.intro ?_ ?_) | exact True.intro | refine ACalls.pure hgr.of ?_ | refine CallX.pure hgr.of ?_ | refine ACalls.pure hrun.of ?_ | refine CallX.pure hrun.of ?_ | refine ACalls.pure hrun2.of ?_ | refine CallX.pure hrun2.of ?_ | refine ACalls.pure hAs.of ?_ | refine CallX.pure hAs.of ?_ | refine ACalls.pure hB.of ?_ | refine CallX.pure hB.of ?_ | refine ACalls.pure hS.of ?_ | refine CallX.pure hS.of ?_ | refine ACalls.pure hF.of ?_ | refine CallX.pure hF.of ?_ | refine ACalls.pure hSame.of ?_ | refine CallX.pure hSame.of ?_ | refine ACalls.pure hAs2.of ?_ | refine CallX.pure hAs2.of ?_ | refine ACalls.pure hS2.of ?_ | refine CallX.pure hS2.of ?_ | refine ACalls.pure hBe.of ?_ | refine CallX.pure hBe.of ?_ | refine ACalls.pure hOn.of ?_ | refine CallX.pure hOn.of ?_ | refine ACalls.pure hRF.of ?_ | refine CallX.pure hRF.of ?_)
  have hbig2 : ¬ (more.length : Int) > 1000 := hbig
  by_cases hfair : fnOk f = true ∧ csRight c = true
  case neg =>
    have hff : (fnOk f && csRight c) = false := by
      rw [Bool.eq_false_iff]
      intro h
      rw [Bool.and_eq_true] at h
      exact hfair h
    rw [hff] at hF
    rw [csA_eq] at *
    unfold encFn ints at *
    clear hfair hff
    replace hgr := Hold.mk hgr
    replace hF := Hold.mk hF
    replace hR := Hold.mk hR
    repeat' (first | simp only [seval, evx, beq_self_eq_true, sb, ew, ec, evs_eq, encEv_def, List.map_nil, List.length_nil, beq_self_eq_true, *] | simp (disch := omega) only [if_pos, if_neg] | refine R.seq ?_ | refine LCB.text ?_ | refine LCB.quiet rfl ?_ | refine R.anyX ?_ | refine R.block ?_ | refine LCB.skip ?_ | refine LCB.exit ?_ | refine LCB.ret ?_ | ((first | refine RetOk.val hcl ?_ | refine Weak.at hcl ?_); simp only [seval, evw, List.forall_mem_cons, List.forall_mem_map, List.forall_mem_append, List.not_mem_nil, sb, ew, ec, evs_eq, encEv_def, List.map_nil, List.length_nil, beq_self_eq_true, *]) | ((first | refine LCB.cond (by simp only [seval, evx] <;> rfl) ?_ ?_ | refine wpG_split (by simp only [seval, evx] <;> rfl) ?_ ?_ | refine wxG_split (by simp only [seval, evx] <;> rfl) ?_ ?_) <;> (intro hc; try simp only [seval, nf] at hc)) | refine ACalls.inst ?_ | refine CallX.inst ?_ | (with_reducible refine And.intro ?_ ?_) | exact True.intro | refine ACalls.pure hgr.of ?_ | refine CallX.pure hgr.of ?_ | refine ACalls.pure hrun.of ?_ | refine CallX.pure hrun.of ?_ | refine ACalls.pure hrun2.of ?_ | refine CallX.pure hrun2.of ?_ | refine ACalls.pure hAs.of ?_ | refine CallX.pure hAs.of ?_ | refine ACalls.pure hB.of ?_ | refine CallX.pure hB.of ?_ | refine ACalls.pure hS.of ?_ | refine CallX.pure hS.of ?_ | refine ACalls.pure hF.of ?_ | refine CallX.pure hF.of ?_ | refine ACalls.pure hSame.of ?_ | refine CallX.pure hSame.of ?_ | refine ACalls.pure hAs2.of ?_ | refine CallX.pure hAs2.of ?_ | refine ACalls.pure hS2.of ?_ | refine CallX.pure hS2.of ?_ | refine ACalls.pure hBe.of ?_ | refine CallX.pure hBe.of ?_ | refine ACalls.pure hOn.of ?_ | refine CallX.pure hOn.of ?_ | refine ACalls.pure hRF.of ?_ | refine CallX.pure hRF.of ?_)
  obtain ⟨hf1, hf2⟩ := hfair
  have hrun := run_Run_ok f c hR (by omega)
  unfold runA at hrun
  have k3 := hf2
  unfold csRight at k3
  simp only [Bool.and_eq_true, decide_eq_true_eq] at k3
  obtain ⟨u1, u2, u3, u4⟩ := k3
  obtain ⟨v1, v2, v3, v4⟩ := runF_inv (f := f) hR u4
  obtain ⟨w1, w2, w3, w4, w5⟩ := runF_count (f := f) u3
  rw [hf1, hf2] at hrun hF
  rw [Bool.and_true, if_pos rfl] at hrun
  rw [Bool.and_true] at hF
  obtain ⟨Rg, hp, an, fu⟩ := c
  simp only at hR hil q2 q3 q4 u1 u2 u3 u4 v1 v2 v3 v4 w1 w2 w3 w4 w5
  have hr0 : csRight ⟨Rg, hp, an ++ more, fu⟩ = true := by
    unfold csRight
    simp only [Bool.and_eq_true, decide_eq_true_eq, List.length_append]
    exact ⟨u1, by omega, u3, u4⟩
  have hrun2 := run_Run_ok f ⟨Rg, hp, an ++ more, fu⟩ hR (by omega)
  unfold runA at hrun2
  rw [hf1, hr0, Bool.and_true, if_pos rfl] at hrun2
  obtain ⟨v1', v2', v3', v4'⟩ := runF_inv (f := f) (c := ⟨Rg, hp, an ++ more, fu⟩) hR u4
  have hfl : 0 < f.length := by
    cases f
    · exact absurd hf1 (by decide)
    · exact Nat.succ_pos _
  obtain ⟨hst, l, hl⟩ := runF_ans (more := more) (beginS_right hf1 hf2 hfl)
  generalize runF f ⟨Rg, hp, an, fu⟩ = RES at *
  generalize runF f ⟨Rg, hp, an ++ more, fu⟩ = RES2 at *
  obtain ⟨t, s⟩ := RES
  obtain ⟨t2, s2⟩ := RES2
  simp only at hrun hrun2 v1 v2 v3 v4 w1 w2 w3 w4 w5 v1' v2' v3' v4' hl hst
  have hwl2 : (wc s.L).length = 48 := by rw [wc_len, v1]
  have hwl3 : (wc s2.L).length = 48 := by rw [wc_len, v1']
  have hBe := ref08_Begins_ok t.evs t2.evs (by omega)
  rw [decide_eq_true (show t.evs.length ≤ t2.evs.length by rw [hl, List.length_append]; omega), decide_eq_true (show t.evs = t2.evs.take t.evs.length by rw [hl, List.take_left']; rfl), Bool.and_true] at hBe
  have hSame := ref08_Same_ok t t2 (by omega) (by omega)
  have hst2 : ¬ t.out.how = 5 → t = t2 := fun h => by
    have := hst h
    exact (Prod.mk.inj this).1.symm
  have rk : rowsOk 1 (an.map encI) = true := rk_map fun x _ => ⟨rfl, rfl⟩
  have rk2 : rowsOk 1 (more.map encI) = true := rk_map fun x _ => ⟨rfl, rfl⟩
  have b0 : an.length * 8 ≤ 140737488355328 := by omega
  have b0' : an.length ≤ 9223372036854775806 := by omega
  have b0a : an.length ≤ 9223372036854775807 := by omega
  have b0'' : (0 + an.length) * 8 ≤ 140737488355328 := by omega
  have b1 : (an.length + more.length) * 8 ≤ 140737488355328 := by omega
  have b2 : an.length + more.length ≤ 9223372036854775806 := by omega
  have b2a : an.length + more.length ≤ 9223372036854775807 := by omega
  have tk : List.take (an.length + more.length) (an.map encI ++ more.map encI) = an.map encI ++ more.map encI := List.take_of_length_le (by simp)
  simp only [stA_eq, rsA_eq, trA_eq, evs_eq] at *
  simp only [csA_eq, List.map_append] at *
  unfold encFn ints at *
  clear hf1 hf2 u1 u2 u3 u4 v1 v2 v3 v4 v1' v2' v3' v4' q1 q2 q3 q4 w1 w2 w3 w4 w5 hr0 hst hl hmore
  replace hgr := Hold.mk hgr
  replace hrun := Hold.mk hrun
  replace hrun2 := Hold.mk hrun2
  replace hF := Hold.mk hF
  replace hBe := Hold.mk hBe
  replace hR := Hold.mk hR
  by_cases k1 : t.out.how = 5
  case neg =>
    have e := hst2 k1
    rw [decide_eq_true e] at hSame
    replace hSame := Hold.mk hSame
    clear hst2 e
    repeat' (first | simp only [seval, evx, beq_self_eq_true, sb, ew, ec, evs_eq, encEv_def, List.map_nil, List.length_nil, beq_self_eq_true, *] | simp (disch := omega) only [if_pos, if_neg] | refine R.seq ?_ | refine LCB.text ?_ | refine LCB.quiet rfl ?_ | refine R.anyX ?_ | refine R.block ?_ | refine LCB.skip ?_ | refine LCB.exit ?_ | refine LCB.ret ?_ | ((first | refine RetOk.val hcl ?_ | refine Weak.at hcl ?_); simp only [seval, evw, List.forall_mem_cons, List.forall_mem_map, List.forall_mem_append, List.not_mem_nil, sb, ew, ec, evs_eq, encEv_def, List.map_nil, List.length_nil, beq_self_eq_true, *]) | ((first | refine LCB.cond (by simp only [seval, evx] <;> rfl) ?_ ?_ | refine wpG_split (by simp only [seval, evx] <;> rfl) ?_ ?_ | refine wxG_split (by simp only [seval, evx] <;> rfl) ?_ ?_) <;> (intro hc; try simp only [seval, nf] at hc)) | refine ACalls.inst ?_ | refine CallX.inst ?_ | (with_reducible refine And.intro ?_ ?_) | exact True.intro | refine ACalls.pure hgr.of ?_ | refine CallX.pure hgr.of ?_ | refine ACalls.pure hrun.of ?_ | refine CallX.pure hrun.of ?_ | refine ACalls.pure hrun2.of ?_ | refine CallX.pure hrun2.of ?_ | refine ACalls.pure hAs.of ?_ | refine CallX.pure hAs.of ?_ | refine ACalls.pure hB.of ?_ | refine CallX.pure hB.of ?_ | refine ACalls.pure hS.of ?_ | refine CallX.pure hS.of ?_ | refine ACalls.pure hF.of ?_ | refine CallX.pure hF.of ?_ | refine ACalls.pure hSame.of ?_ | refine CallX.pure hSame.of ?_ | refine ACalls.pure hAs2.of ?_ | refine CallX.pure hAs2.of ?_ | refine ACalls.pure hS2.of ?_ | refine CallX.pure hS2.of ?_ | refine ACalls.pure hBe.of ?_ | refine CallX.pure hBe.of ?_ | refine ACalls.pure hOn.of ?_ | refine CallX.pure hOn.of ?_ | refine ACalls.pure hRF.of ?_ | refine CallX.pure hRF.of ?_)
    refine ACalls.loseAt [.vec 11 [ic Rg ++ [.list (hp.map encI), .list (an.map encI ++ more.map encI), .int .i64 fu]], .vec 6 [[.list (t.evs.map encEv), .int .i64 t.out.how, .int .i64 t.out.value, .list (t.out.heap.map encI), .int .i64 t.steps, .int .i64 t.work]], .vec 51 [wc s.L ++ [.list (s.heap.map encI), .int .i64 s.pc, .int .i64 s.asked]], .gone] [.list (f.map encIns), .agg (ic Rg ++ [.list (hp.map encI), .list (an.map encI ++ more.map encI), .int .i64 fu])] (by simp only [seval, evw, lk, List.forall_mem_cons, List.forall_mem_map, List.forall_mem_append, List.not_mem_nil, sb, ew, ec, evs_eq, encEv_def, List.map_nil, List.length_nil, beq_self_eq_true, *]) ?_
    first | refine ACalls.pure (hrun2.of) ?_ | refine CallP.pure (hrun2.of) rfl ?_ | refine CallX.pure (hrun2.of) ?_
    repeat' (first | simp only [seval, evx, beq_self_eq_true, sb, ew, ec, evs_eq, encEv_def, List.map_nil, List.length_nil, beq_self_eq_true, *] | simp (disch := omega) only [if_pos, if_neg] | refine R.seq ?_ | refine LCB.text ?_ | refine LCB.quiet rfl ?_ | refine R.anyX ?_ | refine R.block ?_ | refine LCB.skip ?_ | refine LCB.exit ?_ | refine LCB.ret ?_ | ((first | refine RetOk.val hcl ?_ | refine Weak.at hcl ?_); simp only [seval, evw, List.forall_mem_cons, List.forall_mem_map, List.forall_mem_append, List.not_mem_nil, sb, ew, ec, evs_eq, encEv_def, List.map_nil, List.length_nil, beq_self_eq_true, *]) | ((first | refine LCB.cond (by simp only [seval, evx] <;> rfl) ?_ ?_ | refine wpG_split (by simp only [seval, evx] <;> rfl) ?_ ?_ | refine wxG_split (by simp only [seval, evx] <;> rfl) ?_ ?_) <;> (intro hc; try simp only [seval, nf] at hc)) | refine ACalls.inst ?_ | refine CallX.inst ?_ | (with_reducible refine And.intro ?_ ?_) | exact True.intro | refine ACalls.pure hgr.of ?_ | refine CallX.pure hgr.of ?_ | refine ACalls.pure hrun.of ?_ | refine CallX.pure hrun.of ?_ | refine ACalls.pure hrun2.of ?_ | refine CallX.pure hrun2.of ?_ | refine ACalls.pure hAs.of ?_ | refine CallX.pure hAs.of ?_ | refine ACalls.pure hB.of ?_ | refine CallX.pure hB.of ?_ | refine ACalls.pure hS.of ?_ | refine CallX.pure hS.of ?_ | refine ACalls.pure hF.of ?_ | refine CallX.pure hF.of ?_ | refine ACalls.pure hSame.of ?_ | refine CallX.pure hSame.of ?_ | refine ACalls.pure hAs2.of ?_ | refine CallX.pure hAs2.of ?_ | refine ACalls.pure hS2.of ?_ | refine CallX.pure hS2.of ?_ | refine ACalls.pure hBe.of ?_ | refine CallX.pure hBe.of ?_ | refine ACalls.pure hOn.of ?_ | refine CallX.pure hOn.of ?_ | refine ACalls.pure hRF.of ?_ | refine CallX.pure hRF.of ?_)
  clear hst2 hSame
  repeat' (first | simp only [seval, evx, beq_self_eq_true, sb, ew, ec, evs_eq, encEv_def, List.map_nil, List.length_nil, beq_self_eq_true, *] | simp (disch := omega) only [if_pos, if_neg] | refine R.seq ?_ | refine LCB.text ?_ | refine LCB.quiet rfl ?_ | refine R.anyX ?_ | refine R.block ?_ | refine LCB.skip ?_ | refine LCB.exit ?_ | refine LCB.ret ?_ | ((first | refine RetOk.val hcl ?_ | refine Weak.at hcl ?_); simp only [seval, evw, List.forall_mem_cons, List.forall_mem_map, List.forall_mem_append, List.not_mem_nil, sb, ew, ec, evs_eq, encEv_def, List.map_nil, List.length_nil, beq_self_eq_true, *]) | ((first | refine LCB.cond (by simp only [seval, evx] <;> rfl) ?_ ?_ | refine wpG_split (by simp only [seval, evx] <;> rfl) ?_ ?_ | refine wxG_split (by simp only [seval, evx] <;> rfl) ?_ ?_) <;> (intro hc; try simp only [seval, nf] at hc)) | refine ACalls.inst ?_ | refine CallX.inst ?_ | (with_reducible refine And.intro ?_ ?_) | exact True.intro | refine ACalls.pure hgr.of ?_ | refine CallX.pure hgr.of ?_ | refine ACalls.pure hrun.of ?_ | refine CallX.pure hrun.of ?_ | refine ACalls.pure hrun2.of ?_ | refine CallX.pure hrun2.of ?_ | refine ACalls.pure hAs.of ?_ | refine CallX.pure hAs.of ?_ | refine ACalls.pure hB.of ?_ | refine CallX.pure hB.of ?_ | refine ACalls.pure hS.of ?_ | refine CallX.pure hS.of ?_ | refine ACalls.pure hF.of ?_ | refine CallX.pure hF.of ?_ | refine ACalls.pure hSame.of ?_ | refine CallX.pure hSame.of ?_ | refine ACalls.pure hAs2.of ?_ | refine CallX.pure hAs2.of ?_ | refine ACalls.pure hS2.of ?_ | refine CallX.pure hS2.of ?_ | refine ACalls.pure hBe.of ?_ | refine CallX.pure hBe.of ?_ | refine ACalls.pure hOn.of ?_ | refine CallX.pure hOn.of ?_ | refine ACalls.pure hRF.of ?_ | refine CallX.pure hRF.of ?_)
  refine ACalls.loseAt [.vec 11 [ic Rg ++ [.list (hp.map encI), .list (an.map encI ++ more.map encI), .int .i64 fu]], .vec 6 [[.list (t.evs.map encEv), .int .i64 t.out.how, .int .i64 t.out.value, .list (t.out.heap.map encI), .int .i64 t.steps, .int .i64 t.work]], .vec 51 [wc s.L ++ [.list (s.heap.map encI), .int .i64 s.pc, .int .i64 s.asked]], .gone] [.list (f.map encIns), .agg (ic Rg ++ [.list (hp.map encI), .list (an.map encI ++ more.map encI), .int .i64 fu])] (by simp only [seval, evw, lk, List.forall_mem_cons, List.forall_mem_map, List.forall_mem_append, List.not_mem_nil, sb, ew, ec, evs_eq, encEv_def, List.map_nil, List.length_nil, beq_self_eq_true, *]) ?_
  first | refine ACalls.pure (hrun2.of) ?_ | refine CallP.pure (hrun2.of) rfl ?_ | refine CallX.pure (hrun2.of) ?_
  repeat' (first | simp only [seval, evx, beq_self_eq_true, sb, ew, ec, evs_eq, encEv_def, List.map_nil, List.length_nil, beq_self_eq_true, *] | simp (disch := omega) only [if_pos, if_neg] | refine R.seq ?_ | refine LCB.text ?_ | refine LCB.quiet rfl ?_ | refine R.anyX ?_ | refine R.block ?_ | refine LCB.skip ?_ | refine LCB.exit ?_ | refine LCB.ret ?_ | ((first | refine RetOk.val hcl ?_ | refine Weak.at hcl ?_); simp only [seval, evw, List.forall_mem_cons, List.forall_mem_map, List.forall_mem_append, List.not_mem_nil, sb, ew, ec, evs_eq, encEv_def, List.map_nil, List.length_nil, beq_self_eq_true, *]) | ((first | refine LCB.cond (by simp only [seval, evx] <;> rfl) ?_ ?_ | refine wpG_split (by simp only [seval, evx] <;> rfl) ?_ ?_ | refine wxG_split (by simp only [seval, evx] <;> rfl) ?_ ?_) <;> (intro hc; try simp only [seval, nf] at hc)) | refine ACalls.inst ?_ | refine CallX.inst ?_ | (with_reducible refine And.intro ?_ ?_) | exact True.intro | refine ACalls.pure hgr.of ?_ | refine CallX.pure hgr.of ?_ | refine ACalls.pure hrun.of ?_ | refine CallX.pure hrun.of ?_ | refine ACalls.pure hrun2.of ?_ | refine CallX.pure hrun2.of ?_ | refine ACalls.pure hAs.of ?_ | refine CallX.pure hAs.of ?_ | refine ACalls.pure hB.of ?_ | refine CallX.pure hB.of ?_ | refine ACalls.pure hS.of ?_ | refine CallX.pure hS.of ?_ | refine ACalls.pure hF.of ?_ | refine CallX.pure hF.of ?_ | refine ACalls.pure hSame.of ?_ | refine CallX.pure hSame.of ?_ | refine ACalls.pure hAs2.of ?_ | refine CallX.pure hAs2.of ?_ | refine ACalls.pure hS2.of ?_ | refine CallX.pure hS2.of ?_ | refine ACalls.pure hBe.of ?_ | refine CallX.pure hBe.of ?_ | refine ACalls.pure hOn.of ?_ | refine CallX.pure hOn.of ?_ | refine ACalls.pure hRF.of ?_ | refine CallX.pure hRF.of ?_)

theorem runAnswers_law : ∀ av, FitAs [.one (.list insSh), .agg csSh, .one (.list [.int .i64])] av → ACalls Tryd.prog 13 av [] fun r _ => r = .bool true := by
  rintro _ ⟨a, _, rfl, h1, b, _, rfl, h2, d, _, rfl, h3, rfl⟩
  obtain ⟨f, rfl, hf, _⟩ := h1.inss
  obtain ⟨c, rfl, hc, _⟩ := h2.cs
  obtain ⟨l, rfl, _, hl⟩ := h3.ints
  exact (RunAnswers_ok f c l hl hc).law

set_option maxRecDepth 100000 in
theorem runAnswers_lifted (os : Os) (started : os.Started) (H : Type) (enc : TypeId × Value → H) :
    ReturnsInHanded {} Tryd.checked os 13 .any (fun w args => (Rows.runAnswersSpec.pre enc Tryd.prog Tryd.f13 [] false w args ∧ laidMetH Tryd.prog laidL w) ∧ sizedMet enc Tryd.prog Tryd.f13 (OpenSpec.ofChange Rows.runAnswersSpec) false w args)
      (Rows.runAnswersSpec.post enc Tryd.prog Tryd.f13 false true false false) := by
  refine returnsInHanded_of_change_and (C := Tryd.checked) (X := fun w _ => laidMetH Tryd.prog laidL w) (fun _ _ _ hh h => h.of_heap hh) own_ok started (by kernel_rfl) Tryd.func13
    (ChangeSpec.witness_shaped (enc := enc) (C := Tryd.checked) (os := os) (X := fun w _ => laidMetH Tryd.prog laidL w) false (World.doorLaid Tryd.prog 400 os) #[.slice none 0 0, (.agg #[.int .i64 0, .int .i64 0, .int .i64 0, .int .i64 0, .int .i64 0, .int .i64 0, .int .i64 0, .int .i64 0, .slice none 0 0, .slice none 0 0, .int .i64 0]), .slice none 0 0] 8 rfl (World.shaped_of_RefB (by kernel_rfl) (by kernel_rfl)) (by kernel_rfl) (by kernel_rfl) (by kernel_rfl) (door_met os _)) ?_
  intro W base args ds gs before hval0 hW _ _ hL _
  exact law_contract (base := base) laid_ok rfl (by kernel_rfl) (by kernel_rfl) (by kernel_rfl)
    (fun ds hl => by
      match ds, hl with
      | [d1, d2, d3], _ => rfl) (glob_of_laid hL) runAnswers_law hval0 hW

set_option maxRecDepth 100000 in
theorem runAnswers_row : Rows.RunAnswersSaid :=
  OpenClaim.holds_of_wide 13 Tryd.f13 rfl rfl rfl rfl rfl rfl rfl ⟨rfl, rfl, rfl, rfl, rfl⟩ rfl rfl rfl rfl rfl (by kernel_rfl) Tryd.func13 (by kernel_rfl)
    (of_decide_eq_true (by kernel_rfl)) (by unfold Func.isWrapper; first | (rw [if_pos (by decide +kernel)]; kernel_rfl) | (rw [if_neg (by decide +kernel)]; exact ⟨rfl, rfl⟩))
    (fun os started H enc _ => runAnswers_lifted os started H enc)

set_option maxRecDepth 100000 in
/-- **RunAnswers.** -/
theorem runAnswers_holds : Rows.RunAnswersCardSaid :=
  Claim7.holds_tied_plain_at .later [] [.data] true (true, "bfd71dfb10269e8ba6e027be74d69a4e50b0edb49cced56766909c0e9f3902d6") false
    runAnswers_row (fun _ h => by cases h) (by kernel_rfl) (fun _ h => by cases h) runAnswers_row_tie rfl ⟨rfl, rfl⟩ (by kernel_rfl) rfl
    (fun f fn hf hfn => by
      obtain rfl : f = 13 := Option.some.inj ((show Tryd.prog.funcNamed "joinery/joinerylaw08.RunAnswers" = some 13 by kernel_rfl).symm.trans hf) |>.symm
      obtain rfl : fn = Tryd.f13 := (Option.some.inj (Tryd.func13.symm.trans hfn)).symm
      exact ⟨by kernel_rfl, fun j t ht => by
        have hall : (Tryd.f13.params.toList.all fun u => !Tryd.prog.wantsStandIn u) = true := by kernel_rfl
        have hm : t ∈ Tryd.f13.params.toList := by
          have := Array.mem_of_getElem? ht
          simpa using this
        exact (show Tryd.prog.wantsStandIn t = false by simpa using List.all_eq_true.1 hall t hm)⟩)
    (by kernel_rfl)
end Go.Proofs.YtbkbehkjndmabaaDoor


