/-
  RunNone, of every function and case: without fuel nothing is done.
-/
import Derived.Test.YtbkbehkjndmabaaDoorZ10
namespace Go.Proofs.YtbkbehkjndmabaaDoor
open Go.ChangeShapes Go.WideShapes Go.ChangeAt Go.RowKit
set_option linter.unusedVariables false
set_option linter.unusedSimpArgs false
set_option maxHeartbeats 8000000 in
theorem RunNone_ok (f : List Ins) (c : Cs) (hR : c.R.length = 8) : Pure Tryd.prog 12 [encFn f, csA c] (.bool true) := by
  intro H
  refine ACalls.go joinerylaw08_RunNone.low (by simp) fun hcl => ?_
  have hil : (ic c.R).length = 8 := by rw [ic_len, hR]
  have hgr := law08_Great_ok f c hR
  have hF := ref08_Fair_ok f c hR
  by_cases hg : csGreat f c = true
  · rw [hg] at hgr
    rw [csA_eq] at *
    unfold encFn at *
    clear hg hF
    replace hgr := Hold.mk hgr
    replace hR := Hold.mk hR
    repeat' (first | simp only [seval, evx, beq_self_eq_true, sb, ew, ec, evs_eq, encEv_def, List.map_nil, List.length_nil, beq_self_eq_true, *] | simp (disch := omega) only [if_pos, if_neg] | refine R.seq ?_ | refine LCB.text ?_ | refine LCB.quiet rfl ?_ | refine R.anyX ?_ | refine R.block ?_ | refine LCB.skip ?_ | refine LCB.exit ?_ | refine LCB.ret ?_ | ((first | refine RetOk.val hcl ?_ | refine Weak.at hcl ?_); simp only [seval, evw, List.forall_mem_cons, List.forall_mem_map, List.forall_mem_append, List.not_mem_nil, sb, ew, ec, evs_eq, encEv_def, List.map_nil, List.length_nil, beq_self_eq_true, *]) | ((first | refine LCB.cond (by simp only [seval, evx] <;> rfl) ?_ ?_ | refine wpG_split (by simp only [seval, evx] <;> rfl) ?_ ?_ | refine wxG_split (by simp only [seval, evx] <;> rfl) ?_ ?_) <;> (intro hc; try simp only [seval, nf] at hc)) | refine ACalls.inst ?_ | refine CallX.inst ?_ | (with_reducible refine And.intro ?_ ?_) | exact True.intro | refine ACalls.pure hgr.of ?_ | refine CallX.pure hgr.of ?_ | refine ACalls.pure hrun.of ?_ | refine CallX.pure hrun.of ?_ | refine ACalls.pure hrun2.of ?_ | refine CallX.pure hrun2.of ?_ | refine ACalls.pure hAs.of ?_ | refine CallX.pure hAs.of ?_ | refine ACalls.pure hB.of ?_ | refine CallX.pure hB.of ?_ | refine ACalls.pure hS.of ?_ | refine CallX.pure hS.of ?_ | refine ACalls.pure hF.of ?_ | refine CallX.pure hF.of ?_ | refine ACalls.pure hSame.of ?_ | refine CallX.pure hSame.of ?_ | refine ACalls.pure hAs2.of ?_ | refine CallX.pure hAs2.of ?_ | refine ACalls.pure hS2.of ?_ | refine CallX.pure hS2.of ?_ | refine ACalls.pure hBe.of ?_ | refine CallX.pure hBe.of ?_ | refine ACalls.pure hOn.of ?_ | refine CallX.pure hOn.of ?_ | refine ACalls.pure hRF.of ?_ | refine CallX.pure hRF.of ?_)
  obtain ⟨q1, q2, q3, q4⟩ := great8_not hg
  have hg2 : csGreat f c = false := by simpa using hg
  rw [hg2] at hgr
  clear hg hg2
  by_cases hfair : fnOk f = true ∧ csRight c = true
  case neg =>
    have hff : (fnOk f && csRight c) = false := by
      rw [Bool.eq_false_iff]
      intro h
      rw [Bool.and_eq_true] at h
      exact hfair h
    rw [hff] at hF
    rw [csA_eq] at *
    unfold encFn at *
    clear hfair hff
    replace hgr := Hold.mk hgr
    replace hF := Hold.mk hF
    replace hR := Hold.mk hR
    repeat' (first | simp only [seval, evx, beq_self_eq_true, sb, ew, ec, evs_eq, encEv_def, List.map_nil, List.length_nil, beq_self_eq_true, *] | simp (disch := omega) only [if_pos, if_neg] | refine R.seq ?_ | refine LCB.text ?_ | refine LCB.quiet rfl ?_ | refine R.anyX ?_ | refine R.block ?_ | refine LCB.skip ?_ | refine LCB.exit ?_ | refine LCB.ret ?_ | ((first | refine RetOk.val hcl ?_ | refine Weak.at hcl ?_); simp only [seval, evw, List.forall_mem_cons, List.forall_mem_map, List.forall_mem_append, List.not_mem_nil, sb, ew, ec, evs_eq, encEv_def, List.map_nil, List.length_nil, beq_self_eq_true, *]) | ((first | refine LCB.cond (by simp only [seval, evx] <;> rfl) ?_ ?_ | refine wpG_split (by simp only [seval, evx] <;> rfl) ?_ ?_ | refine wxG_split (by simp only [seval, evx] <;> rfl) ?_ ?_) <;> (intro hc; try simp only [seval, nf] at hc)) | refine ACalls.inst ?_ | refine CallX.inst ?_ | (with_reducible refine And.intro ?_ ?_) | exact True.intro | refine ACalls.pure hgr.of ?_ | refine CallX.pure hgr.of ?_ | refine ACalls.pure hrun.of ?_ | refine CallX.pure hrun.of ?_ | refine ACalls.pure hrun2.of ?_ | refine CallX.pure hrun2.of ?_ | refine ACalls.pure hAs.of ?_ | refine CallX.pure hAs.of ?_ | refine ACalls.pure hB.of ?_ | refine CallX.pure hB.of ?_ | refine ACalls.pure hS.of ?_ | refine CallX.pure hS.of ?_ | refine ACalls.pure hF.of ?_ | refine CallX.pure hF.of ?_ | refine ACalls.pure hSame.of ?_ | refine CallX.pure hSame.of ?_ | refine ACalls.pure hAs2.of ?_ | refine CallX.pure hAs2.of ?_ | refine ACalls.pure hS2.of ?_ | refine CallX.pure hS2.of ?_ | refine ACalls.pure hBe.of ?_ | refine CallX.pure hBe.of ?_ | refine ACalls.pure hOn.of ?_ | refine CallX.pure hOn.of ?_ | refine ACalls.pure hRF.of ?_ | refine CallX.pure hRF.of ?_)
  obtain ⟨hf1, hf2⟩ := hfair
  have hrun := run_Run_ok f c hR (by omega)
  unfold runA at hrun
  have k3 := hf2
  unfold csRight at k3
  simp only [Bool.and_eq_true, decide_eq_true_eq] at k3
  obtain ⟨u1, u2, u3, u4⟩ := k3
  obtain ⟨v1, v2, v3, v4⟩ := runF_inv (f := f) hR u4
  obtain ⟨w1, w2, w3, w4, w5⟩ := runF_count (f := f) u3
  rw [hf1, hf2] at hrun hF
  rw [Bool.and_true, if_pos rfl] at hrun
  rw [Bool.and_true] at hF
  obtain ⟨Rg, hp, an, fu⟩ := c
  simp only at hR hil q2 q3 q4 u1 u2 u3 u4 v1 v2 v3 v4 w1 w2 w3 w4 w5
  have hlen := beginS_len (c := ⟨Rg, hp, an, 0⟩) hR
  have hr0 : csRight ⟨Rg, hp, an, 0⟩ = true := by
    unfold csRight
    simp only [Bool.and_eq_true, decide_eq_true_eq]
    exact ⟨u1, u2, by omega, by omega⟩
  have hrun2 := run_Run_ok f ⟨Rg, hp, an, 0⟩ hR (by omega)
  unfold runA at hrun2
  rw [hf1, hr0, Bool.and_true, if_pos rfl, runF_none (fu := 0)] at hrun2
  have hAs := law07_As_ok (beginS ⟨Rg, hp, an, 0⟩) hlen
  have hB := ref08_Begin_ok ⟨Rg, hp, an, 0⟩ hR
  have hS := ref07_Same_ok (beginS ⟨Rg, hp, an, 0⟩) (beginS ⟨Rg, hp, an, 0⟩) hlen hlen (by show hp.length ≤ _; omega)
  rw [decide_eq_true rfl] at hS
  have hb3 : (beginS ⟨Rg, hp, an, 0⟩).pc = 0 := rfl
  have hwl : (wc (beginS ⟨Rg, hp, an, 0⟩).L).length = 48 := by rw [wc_len, hlen]
  generalize beginS ⟨Rg, hp, an, 0⟩ = s0 at *
  obtain ⟨L0, hp0, pc0, as0⟩ := s0
  simp only at hb3 hwl
  subst hb3
  generalize runF f ⟨Rg, hp, an, fu⟩ = RES at *
  obtain ⟨t, s⟩ := RES
  simp only at hrun hrun2 v1 v2 v3 v4 w1 w2 w3 w4 w5
  have hwl2 : (wc s.L).length = 48 := by rw [wc_len, v1]
  have x1 : ¬ t.work > t.steps := by omega
  have x1' : ¬ t.steps < t.work := by omega
  rw [tr0_eq] at hrun2
  simp only [stA_eq, rsA_eq, trA_eq] at *
  simp only [csA_eq] at *
  unfold encFn at *
  clear hf1 hf2 u1 u2 u3 u4 v1 v3 v4 q1 q2 q3 q4 hlen w1 w2 w3 w4 w5 hr0
  replace hgr := Hold.mk hgr
  replace hrun := Hold.mk hrun
  replace hrun2 := Hold.mk hrun2
  replace hAs := Hold.mk hAs
  replace hB := Hold.mk hB
  replace hS := Hold.mk hS
  replace hF := Hold.mk hF
  replace hR := Hold.mk hR
  repeat' (first | simp only [seval, evx, beq_self_eq_true, sb, ew, ec, evs_eq, encEv_def, List.map_nil, List.length_nil, beq_self_eq_true, *] | simp (disch := omega) only [if_pos, if_neg] | refine R.seq ?_ | refine LCB.text ?_ | refine LCB.quiet rfl ?_ | refine R.anyX ?_ | refine R.block ?_ | refine LCB.skip ?_ | refine LCB.exit ?_ | refine LCB.ret ?_ | ((first | refine RetOk.val hcl ?_ | refine Weak.at hcl ?_); simp only [seval, evw, List.forall_mem_cons, List.forall_mem_map, List.forall_mem_append, List.not_mem_nil, sb, ew, ec, evs_eq, encEv_def, List.map_nil, List.length_nil, beq_self_eq_true, *]) | ((first | refine LCB.cond (by simp only [seval, evx] <;> rfl) ?_ ?_ | refine wpG_split (by simp only [seval, evx] <;> rfl) ?_ ?_ | refine wxG_split (by simp only [seval, evx] <;> rfl) ?_ ?_) <;> (intro hc; try simp only [seval, nf] at hc)) | refine ACalls.inst ?_ | refine CallX.inst ?_ | (with_reducible refine And.intro ?_ ?_) | exact True.intro | refine ACalls.pure hgr.of ?_ | refine CallX.pure hgr.of ?_ | refine ACalls.pure hrun.of ?_ | refine CallX.pure hrun.of ?_ | refine ACalls.pure hrun2.of ?_ | refine CallX.pure hrun2.of ?_ | refine ACalls.pure hAs.of ?_ | refine CallX.pure hAs.of ?_ | refine ACalls.pure hB.of ?_ | refine CallX.pure hB.of ?_ | refine ACalls.pure hS.of ?_ | refine CallX.pure hS.of ?_ | refine ACalls.pure hF.of ?_ | refine CallX.pure hF.of ?_ | refine ACalls.pure hSame.of ?_ | refine CallX.pure hSame.of ?_ | refine ACalls.pure hAs2.of ?_ | refine CallX.pure hAs2.of ?_ | refine ACalls.pure hS2.of ?_ | refine CallX.pure hS2.of ?_ | refine ACalls.pure hBe.of ?_ | refine CallX.pure hBe.of ?_ | refine ACalls.pure hOn.of ?_ | refine CallX.pure hOn.of ?_ | refine ACalls.pure hRF.of ?_ | refine CallX.pure hRF.of ?_)

theorem runNone_law : ∀ av, FitAs [.one (.list insSh), .agg csSh] av → ACalls Tryd.prog 12 av [] fun r _ => r = .bool true := by
  rintro _ ⟨a, _, rfl, h1, b, _, rfl, h2, rfl⟩
  obtain ⟨f, rfl, hf, _⟩ := h1.inss
  obtain ⟨c, rfl, hc, _⟩ := h2.cs
  exact (RunNone_ok f c hc).law

set_option maxRecDepth 100000 in
theorem runNone_lifted (os : Os) (started : os.Started) (H : Type) (enc : TypeId × Value → H) :
    ReturnsInHanded {} Tryd.checked os 12 .any (fun w args => (Rows.runNoneSpec.pre enc Tryd.prog Tryd.f12 [] false w args ∧ laidMetH Tryd.prog laidL w) ∧ sizedMet enc Tryd.prog Tryd.f12 (OpenSpec.ofChange Rows.runNoneSpec) false w args)
      (Rows.runNoneSpec.post enc Tryd.prog Tryd.f12 false true false false) := by
  refine returnsInHanded_of_change_and (C := Tryd.checked) (X := fun w _ => laidMetH Tryd.prog laidL w) (fun _ _ _ hh h => h.of_heap hh) own_ok started (by kernel_rfl) Tryd.func12
    (ChangeSpec.witness_shaped (enc := enc) (C := Tryd.checked) (os := os) (X := fun w _ => laidMetH Tryd.prog laidL w) false (World.doorLaid Tryd.prog 400 os) #[.slice none 0 0, (.agg #[.int .i64 0, .int .i64 0, .int .i64 0, .int .i64 0, .int .i64 0, .int .i64 0, .int .i64 0, .int .i64 0, .slice none 0 0, .slice none 0 0, .int .i64 0])] 8 rfl (World.shaped_of_RefB (by kernel_rfl) (by kernel_rfl)) (by kernel_rfl) (by kernel_rfl) (by kernel_rfl) (door_met os _)) ?_
  intro W base args ds gs before hval0 hW _ _ hL _
  exact law_contract (base := base) laid_ok rfl (by kernel_rfl) (by kernel_rfl) (by kernel_rfl)
    (fun ds hl => by
      match ds, hl with
      | [d1, d2], _ => rfl) (glob_of_laid hL) runNone_law hval0 hW

set_option maxRecDepth 100000 in
theorem runNone_row : Rows.RunNoneSaid :=
  OpenClaim.holds_of_wide 12 Tryd.f12 rfl rfl rfl rfl rfl rfl rfl ⟨rfl, rfl, rfl, rfl, rfl⟩ rfl rfl rfl rfl rfl (by kernel_rfl) Tryd.func12 (by kernel_rfl)
    (of_decide_eq_true (by kernel_rfl)) (by unfold Func.isWrapper; first | (rw [if_pos (by decide +kernel)]; kernel_rfl) | (rw [if_neg (by decide +kernel)]; exact ⟨rfl, rfl⟩))
    (fun os started H enc _ => runNone_lifted os started H enc)

set_option maxRecDepth 100000 in
/-- **RunNone.** -/
theorem runNone_holds : Rows.RunNoneCardSaid :=
  Claim7.holds_tied_plain_at .later [] [.data] true (true, "bfd71dfb10269e8ba6e027be74d69a4e50b0edb49cced56766909c0e9f3902d6") false
    runNone_row (fun _ h => by cases h) (by kernel_rfl) (fun _ h => by cases h) runNone_row_tie rfl ⟨rfl, rfl⟩ (by kernel_rfl) rfl
    (fun f fn hf hfn => by
      obtain rfl : f = 12 := Option.some.inj ((show Tryd.prog.funcNamed "joinery/joinerylaw08.RunNone" = some 12 by kernel_rfl).symm.trans hf) |>.symm
      obtain rfl : fn = Tryd.f12 := (Option.some.inj (Tryd.func12.symm.trans hfn)).symm
      exact ⟨by kernel_rfl, fun j t ht => by
        have hall : (Tryd.f12.params.toList.all fun u => !Tryd.prog.wantsStandIn u) = true := by kernel_rfl
        have hm : t ∈ Tryd.f12.params.toList := by
          have := Array.mem_of_getElem? ht
          simpa using this
        exact (show Tryd.prog.wantsStandIn t = false by simpa using List.all_eq_true.1 hall t hm)⟩)
    (by kernel_rfl)
end Go.Proofs.YtbkbehkjndmabaaDoor


