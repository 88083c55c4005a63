/-
  RunEvents, of every function and case.
-/
import Derived.Test.YtbkbehkjndmabaaDoorZE
namespace Go.Proofs.YtbkbehkjndmabaaDoor
open Go.ChangeShapes Go.WideShapes Go.ChangeAt Go.RowKit
set_option linter.unusedVariables false
set_option linter.unusedSimpArgs false
set_option maxHeartbeats 8000000 in
theorem RunEvents_ok (f : List Ins) (c : Cs) (hR : c.R.length = 8) : Pure Tryd.prog 14 [encFn f, csA c] (.bool true) := by
  intro H
  refine ACalls.go joinerylaw08_RunEvents.low (by simp) fun hcl => ?_
  have hil : (ic c.R).length = 8 := by rw [ic_len, hR]
  have hgr := law08_Great_ok f c hR
  have hF := ref08_Fair_ok f c hR
  by_cases hg : csGreat f c = true
  · rw [hg] at hgr
    rw [csA_eq] at *
    unfold encFn at *
    clear hg hF
    replace hgr := Hold.mk hgr
    replace hR := Hold.mk hR
    repeat' (first | simp only [seval, evx, beq_self_eq_true, sb, ew, ec, evs_eq, encEv_def, List.map_nil, List.length_nil, beq_self_eq_true, *] | simp (disch := omega) only [if_pos, if_neg] | refine R.seq ?_ | refine LCB.text ?_ | refine LCB.quiet rfl ?_ | refine R.anyX ?_ | refine R.block ?_ | refine LCB.skip ?_ | refine LCB.exit ?_ | refine LCB.ret ?_ | ((first | refine RetOk.val hcl ?_ | refine Weak.at hcl ?_); simp only [seval, evw, List.forall_mem_cons, List.forall_mem_map, List.forall_mem_append, List.not_mem_nil, sb, ew, ec, evs_eq, encEv_def, List.map_nil, List.length_nil, beq_self_eq_true, *]) | ((first | refine LCB.cond (by simp only [seval, evx] <;> rfl) ?_ ?_ | refine wpG_split (by simp only [seval, evx] <;> rfl) ?_ ?_ | refine wxG_split (by simp only [seval, evx] <;> rfl) ?_ ?_) <;> (intro hc; try simp only [seval, nf] at hc)) | refine ACalls.inst ?_ | refine CallX.inst ?_ | (with_reducible refine And.intro ?_ ?_) | exact True.intro | refine ACalls.pure hgr.of ?_ | refine CallX.pure hgr.of ?_ | refine ACalls.pure hrun.of ?_ | refine CallX.pure hrun.of ?_ | refine ACalls.pure hrun2.of ?_ | refine CallX.pure hrun2.of ?_ | refine ACalls.pure hAs.of ?_ | refine CallX.pure hAs.of ?_ | refine ACalls.pure hB.of ?_ | refine CallX.pure hB.of ?_ | refine ACalls.pure hS.of ?_ | refine CallX.pure hS.of ?_ | refine ACalls.pure hF.of ?_ | refine CallX.pure hF.of ?_ | refine ACalls.pure hSame.of ?_ | refine CallX.pure hSame.of ?_ | refine ACalls.pure hAs2.of ?_ | refine CallX.pure hAs2.of ?_ | refine ACalls.pure hS2.of ?_ | refine CallX.pure hS2.of ?_ | refine ACalls.pure hBe.of ?_ | refine CallX.pure hBe.of ?_ | refine ACalls.pure hOn.of ?_ | refine CallX.pure hOn.of ?_ | refine ACalls.pure hRF.of ?_ | refine CallX.pure hRF.of ?_)
  obtain ⟨q1, q2, q3, q4⟩ := great8_not hg
  have hg2 : csGreat f c = false := by simpa using hg
  rw [hg2] at hgr
  clear hg hg2
  by_cases hfair : fnOk f = true ∧ csRight c = true
  case neg =>
    have hff : (fnOk f && csRight c) = false := by
      rw [Bool.eq_false_iff]
      intro h
      rw [Bool.and_eq_true] at h
      exact hfair h
    rw [hff] at hF
    rw [csA_eq] at *
    unfold encFn at *
    clear hfair hff
    replace hgr := Hold.mk hgr
    replace hF := Hold.mk hF
    replace hR := Hold.mk hR
    repeat' (first | simp only [seval, evx, beq_self_eq_true, sb, ew, ec, evs_eq, encEv_def, List.map_nil, List.length_nil, beq_self_eq_true, *] | simp (disch := omega) only [if_pos, if_neg] | refine R.seq ?_ | refine LCB.text ?_ | refine LCB.quiet rfl ?_ | refine R.anyX ?_ | refine R.block ?_ | refine LCB.skip ?_ | refine LCB.exit ?_ | refine LCB.ret ?_ | ((first | refine RetOk.val hcl ?_ | refine Weak.at hcl ?_); simp only [seval, evw, List.forall_mem_cons, List.forall_mem_map, List.forall_mem_append, List.not_mem_nil, sb, ew, ec, evs_eq, encEv_def, List.map_nil, List.length_nil, beq_self_eq_true, *]) | ((first | refine LCB.cond (by simp only [seval, evx] <;> rfl) ?_ ?_ | refine wpG_split (by simp only [seval, evx] <;> rfl) ?_ ?_ | refine wxG_split (by simp only [seval, evx] <;> rfl) ?_ ?_) <;> (intro hc; try simp only [seval, nf] at hc)) | refine ACalls.inst ?_ | refine CallX.inst ?_ | (with_reducible refine And.intro ?_ ?_) | exact True.intro | refine ACalls.pure hgr.of ?_ | refine CallX.pure hgr.of ?_ | refine ACalls.pure hrun.of ?_ | refine CallX.pure hrun.of ?_ | refine ACalls.pure hrun2.of ?_ | refine CallX.pure hrun2.of ?_ | refine ACalls.pure hAs.of ?_ | refine CallX.pure hAs.of ?_ | refine ACalls.pure hB.of ?_ | refine CallX.pure hB.of ?_ | refine ACalls.pure hS.of ?_ | refine CallX.pure hS.of ?_ | refine ACalls.pure hF.of ?_ | refine CallX.pure hF.of ?_ | refine ACalls.pure hSame.of ?_ | refine CallX.pure hSame.of ?_ | refine ACalls.pure hAs2.of ?_ | refine CallX.pure hAs2.of ?_ | refine ACalls.pure hS2.of ?_ | refine CallX.pure hS2.of ?_ | refine ACalls.pure hBe.of ?_ | refine CallX.pure hBe.of ?_ | refine ACalls.pure hOn.of ?_ | refine CallX.pure hOn.of ?_ | refine ACalls.pure hRF.of ?_ | refine CallX.pure hRF.of ?_)
  obtain ⟨hf1, hf2⟩ := hfair
  have hrun := run_Run_ok f c hR (by omega)
  unfold runA at hrun
  have k3 := hf2
  unfold csRight at k3
  simp only [Bool.and_eq_true, decide_eq_true_eq] at k3
  obtain ⟨u1, u2, u3, u4⟩ := k3
  obtain ⟨v1, v2, v3, v4⟩ := runF_inv (f := f) hR u4
  obtain ⟨w1, w2, w3, w4, w5⟩ := runF_count (f := f) u3
  rw [hf1, hf2] at hrun hF
  rw [Bool.and_true, if_pos rfl] at hrun
  rw [Bool.and_true] at hF
  obtain ⟨Rg, hp, an, fu⟩ := c
  simp only at hR hil q2 q3 q4 u1 u2 u3 u4 v1 v2 v3 v4 w1 w2 w3 w4 w5
  have hfl : 0 < f.length := by
    cases f
    · exact absurd hf1 (by decide)
    · exact Nat.succ_pos _
  have hev := runF_evs (f := f) (c := ⟨Rg, hp, an, fu⟩) (beginS_right hf1 hf2 hfl)
  generalize runF f ⟨Rg, hp, an, fu⟩ = RES at *
  obtain ⟨t, s⟩ := RES
  simp only at hrun v1 v2 v3 v4 hev
  obtain ⟨g1, g2, g3⟩ := hev
  have hwl2 : (wc s.L).length = 48 := by rw [wc_len, v1]
  have y1 : ¬ (an.length : Int) < (t.evs.length : Int) := by omega
  have y1' : ¬ (t.evs.length : Int) > (an.length : Int) := by omega
  simp only [stA_eq, rsA_eq, trA_eq, evs_eq] at *
  simp only [csA_eq] at *
  unfold encFn at *
  clear hf1 hf2 u1 u2 u3 u4 v1 v2 v4 q1 q3 q4 w1 w2 w3 w4 w5
  replace hgr := Hold.mk hgr
  replace hrun := Hold.mk hrun
  replace hF := Hold.mk hF
  replace hR := Hold.mk hR
  replace g2 := Hold.mk g2
  replace g3 := Hold.mk g3
  replace v3 := Hold.mk v3
  replace q2 := Hold.mk q2
  repeat' (first | simp only [seval, evx, beq_self_eq_true, sb, ew, ec, evs_eq, encEv_def, List.map_nil, List.length_nil, beq_self_eq_true, *] | simp (disch := omega) only [if_pos, if_neg] | refine R.seq ?_ | refine LCB.text ?_ | refine LCB.quiet rfl ?_ | refine R.anyX ?_ | refine R.block ?_ | refine LCB.skip ?_ | refine LCB.exit ?_ | refine LCB.ret ?_ | ((first | refine RetOk.val hcl ?_ | refine Weak.at hcl ?_); simp only [seval, evw, List.forall_mem_cons, List.forall_mem_map, List.forall_mem_append, List.not_mem_nil, sb, ew, ec, evs_eq, encEv_def, List.map_nil, List.length_nil, beq_self_eq_true, *]) | ((first | refine LCB.cond (by simp only [seval, evx] <;> rfl) ?_ ?_ | refine wpG_split (by simp only [seval, evx] <;> rfl) ?_ ?_ | refine wxG_split (by simp only [seval, evx] <;> rfl) ?_ ?_) <;> (intro hc; try simp only [seval, nf] at hc)) | refine ACalls.inst ?_ | refine CallX.inst ?_ | (with_reducible refine And.intro ?_ ?_) | exact True.intro | refine ACalls.pure hgr.of ?_ | refine CallX.pure hgr.of ?_ | refine ACalls.pure hrun.of ?_ | refine CallX.pure hrun.of ?_ | refine ACalls.pure hrun2.of ?_ | refine CallX.pure hrun2.of ?_ | refine ACalls.pure hAs.of ?_ | refine CallX.pure hAs.of ?_ | refine ACalls.pure hB.of ?_ | refine CallX.pure hB.of ?_ | refine ACalls.pure hS.of ?_ | refine CallX.pure hS.of ?_ | refine ACalls.pure hF.of ?_ | refine CallX.pure hF.of ?_ | refine ACalls.pure hSame.of ?_ | refine CallX.pure hSame.of ?_ | refine ACalls.pure hAs2.of ?_ | refine CallX.pure hAs2.of ?_ | refine ACalls.pure hS2.of ?_ | refine CallX.pure hS2.of ?_ | refine ACalls.pure hBe.of ?_ | refine CallX.pure hBe.of ?_ | refine ACalls.pure hOn.of ?_ | refine CallX.pure hOn.of ?_ | refine ACalls.pure hRF.of ?_ | refine CallX.pure hRF.of ?_)
  refine R.loop (S := Nat) ⟨fun i => [(3, .ptr H.length 1 0 0), (5, .ptr (H.length + 1) 1 0 0), (8, .int .i64 (i : Int))],
    fun i => H ++ [.vec 11 [ic Rg ++ [.list (hp.map encI), .list (an.map encI), .int .i64 fu]], .vec 6 [[.list (t.evs.map encEv), .int .i64 t.out.how, .int .i64 t.out.value, .list (t.out.heap.map encI), .int .i64 t.steps, .int .i64 t.work]]],
    fun i => i ≤ t.evs.length, fun i => t.evs.length - i⟩ 0 (Nat.zero_le _) (Weak.at hcl ?_) ?_
  · simp only [seval, evw, List.forall_mem_cons, List.forall_mem_map, List.forall_mem_append, List.not_mem_nil, sb, ew, ec, evs_eq, encEv_def, List.map_nil, List.length_nil, beq_self_eq_true, *]
  intro i hi
  simp only at hi ⊢
  by_cases hlt : i < t.evs.length
  · have hle := g2.of
    have hv3 := v3.of
    have e1 : (i : Int) < (t.evs.length : Int) := by omega
    have e1' : (i : Int) < (an.length : Int) := by omega
    have e2 : IntKind.i64.wrap ((i : Int) + 1) = ((i + 1 : Nat) : Int) := by rw [IntKind.wrap_i64]; omega
    have hg : (t.evs.map encEv).getD i [] = [.int .i64 (t.evs.getD i noE).n, .int .i64 (t.evs.getD i noE).arg, .int .i64 (t.evs.getD i noE).ans] := getD_encEv hlt
    have hg2 : (an.map encI).getD i [] = [.int .i64 (an.getD i 0)] := by simp [List.getD, show i < an.length by omega, encI]
    obtain ⟨z1, z2, z3⟩ := g3.of i hlt
    generalize t.evs.getD i noE = ev at *
    generalize an.getD i 0 = av at *
    obtain ⟨en, ea, ez⟩ := ev
    simp only at z1 z2 z3 hg
    subst z1
    have z4 : ¬ en < 0 := by omega
    have z5 : ¬ 99 < en := by omega
    have z5' : ¬ en > 99 := by omega
    clear hle hv3 z2 z3
    repeat' (first | simp only [seval, evx, beq_self_eq_true, sb, ew, ec, evs_eq, encEv_def, List.map_nil, List.length_nil, beq_self_eq_true, *] | simp (disch := omega) only [if_pos, if_neg] | refine R.seq ?_ | refine LCB.text ?_ | refine LCB.quiet rfl ?_ | refine R.anyX ?_ | refine R.block ?_ | refine LCB.skip ?_ | refine LCB.exit ?_ | refine LCB.ret ?_ | ((first | refine RetOk.val hcl ?_ | refine Weak.at hcl ?_); simp only [seval, evw, List.forall_mem_cons, List.forall_mem_map, List.forall_mem_append, List.not_mem_nil, sb, ew, ec, evs_eq, encEv_def, List.map_nil, List.length_nil, beq_self_eq_true, *]) | ((first | refine LCB.cond (by simp only [seval, evx] <;> rfl) ?_ ?_ | refine wpG_split (by simp only [seval, evx] <;> rfl) ?_ ?_ | refine wxG_split (by simp only [seval, evx] <;> rfl) ?_ ?_) <;> (intro hc; try simp only [seval, nf] at hc)) | refine ACalls.inst ?_ | refine CallX.inst ?_ | (with_reducible refine And.intro ?_ ?_) | exact True.intro | refine ACalls.pure hgr.of ?_ | refine CallX.pure hgr.of ?_ | refine ACalls.pure hrun.of ?_ | refine CallX.pure hrun.of ?_ | refine ACalls.pure hrun2.of ?_ | refine CallX.pure hrun2.of ?_ | refine ACalls.pure hAs.of ?_ | refine CallX.pure hAs.of ?_ | refine ACalls.pure hB.of ?_ | refine CallX.pure hB.of ?_ | refine ACalls.pure hS.of ?_ | refine CallX.pure hS.of ?_ | refine ACalls.pure hF.of ?_ | refine CallX.pure hF.of ?_ | refine ACalls.pure hSame.of ?_ | refine CallX.pure hSame.of ?_ | refine ACalls.pure hAs2.of ?_ | refine CallX.pure hAs2.of ?_ | refine ACalls.pure hS2.of ?_ | refine CallX.pure hS2.of ?_ | refine ACalls.pure hBe.of ?_ | refine CallX.pure hBe.of ?_ | refine ACalls.pure hOn.of ?_ | refine CallX.pure hOn.of ?_ | refine ACalls.pure hRF.of ?_ | refine CallX.pure hRF.of ?_)
    refine ⟨i + 1, hlt, by simp only; omega, Weak.at hcl ?_⟩
    simp only [seval, evw, List.forall_mem_cons, List.forall_mem_map, List.forall_mem_append, List.not_mem_nil, sb, ew, ec, evs_eq, encEv_def, List.map_nil, List.length_nil, beq_self_eq_true, *]
  · have hie : i = t.evs.length := by omega
    subst hie
    have e1 : ¬ (t.evs.length : Int) < (t.evs.length : Int) := Int.lt_irrefl _
    repeat' (first | simp only [seval, evx, beq_self_eq_true, sb, ew, ec, evs_eq, encEv_def, List.map_nil, List.length_nil, beq_self_eq_true, *] | simp (disch := omega) only [if_pos, if_neg] | refine R.seq ?_ | refine LCB.text ?_ | refine LCB.quiet rfl ?_ | refine R.anyX ?_ | refine R.block ?_ | refine LCB.skip ?_ | refine LCB.exit ?_ | refine LCB.ret ?_ | ((first | refine RetOk.val hcl ?_ | refine Weak.at hcl ?_); simp only [seval, evw, List.forall_mem_cons, List.forall_mem_map, List.forall_mem_append, List.not_mem_nil, sb, ew, ec, evs_eq, encEv_def, List.map_nil, List.length_nil, beq_self_eq_true, *]) | ((first | refine LCB.cond (by simp only [seval, evx] <;> rfl) ?_ ?_ | refine wpG_split (by simp only [seval, evx] <;> rfl) ?_ ?_ | refine wxG_split (by simp only [seval, evx] <;> rfl) ?_ ?_) <;> (intro hc; try simp only [seval, nf] at hc)) | refine ACalls.inst ?_ | refine CallX.inst ?_ | (with_reducible refine And.intro ?_ ?_) | exact True.intro | refine ACalls.pure hgr.of ?_ | refine CallX.pure hgr.of ?_ | refine ACalls.pure hrun.of ?_ | refine CallX.pure hrun.of ?_ | refine ACalls.pure hrun2.of ?_ | refine CallX.pure hrun2.of ?_ | refine ACalls.pure hAs.of ?_ | refine CallX.pure hAs.of ?_ | refine ACalls.pure hB.of ?_ | refine CallX.pure hB.of ?_ | refine ACalls.pure hS.of ?_ | refine CallX.pure hS.of ?_ | refine ACalls.pure hF.of ?_ | refine CallX.pure hF.of ?_ | refine ACalls.pure hSame.of ?_ | refine CallX.pure hSame.of ?_ | refine ACalls.pure hAs2.of ?_ | refine CallX.pure hAs2.of ?_ | refine ACalls.pure hS2.of ?_ | refine CallX.pure hS2.of ?_ | refine ACalls.pure hBe.of ?_ | refine CallX.pure hBe.of ?_ | refine ACalls.pure hOn.of ?_ | refine CallX.pure hOn.of ?_ | refine ACalls.pure hRF.of ?_ | refine CallX.pure hRF.of ?_)

theorem runEvents_law : ∀ av, FitAs [.one (.list insSh), .agg csSh] av → ACalls Tryd.prog 14 av [] fun r _ => r = .bool true := by
  rintro _ ⟨a, _, rfl, h1, b, _, rfl, h2, rfl⟩
  obtain ⟨f, rfl, hf, _⟩ := h1.inss
  obtain ⟨c, rfl, hc, _⟩ := h2.cs
  exact (RunEvents_ok f c hc).law

set_option maxRecDepth 100000 in
theorem runEvents_lifted (os : Os) (started : os.Started) (H : Type) (enc : TypeId × Value → H) :
    ReturnsInHanded {} Tryd.checked os 14 .any (fun w args => (Rows.runEventsSpec.pre enc Tryd.prog Tryd.f14 [] false w args ∧ laidMetH Tryd.prog laidL w) ∧ sizedMet enc Tryd.prog Tryd.f14 (OpenSpec.ofChange Rows.runEventsSpec) false w args)
      (Rows.runEventsSpec.post enc Tryd.prog Tryd.f14 false true false false) := by
  refine returnsInHanded_of_change_and (C := Tryd.checked) (X := fun w _ => laidMetH Tryd.prog laidL w) (fun _ _ _ hh h => h.of_heap hh) own_ok started (by kernel_rfl) Tryd.func14
    (ChangeSpec.witness_shaped (enc := enc) (C := Tryd.checked) (os := os) (X := fun w _ => laidMetH Tryd.prog laidL w) false (World.doorLaid Tryd.prog 400 os) #[.slice none 0 0, (.agg #[.int .i64 0, .int .i64 0, .int .i64 0, .int .i64 0, .int .i64 0, .int .i64 0, .int .i64 0, .int .i64 0, .slice none 0 0, .slice none 0 0, .int .i64 0])] 8 rfl (World.shaped_of_RefB (by kernel_rfl) (by kernel_rfl)) (by kernel_rfl) (by kernel_rfl) (by kernel_rfl) (door_met os _)) ?_
  intro W base args ds gs before hval0 hW _ _ hL _
  exact law_contract (base := base) laid_ok rfl (by kernel_rfl) (by kernel_rfl) (by kernel_rfl)
    (fun ds hl => by
      match ds, hl with
      | [d1, d2], _ => rfl) (glob_of_laid hL) runEvents_law hval0 hW

set_option maxRecDepth 100000 in
theorem runEvents_row : Rows.RunEventsSaid :=
  OpenClaim.holds_of_wide 14 Tryd.f14 rfl rfl rfl rfl rfl rfl rfl ⟨rfl, rfl, rfl, rfl, rfl⟩ rfl rfl rfl rfl rfl (by kernel_rfl) Tryd.func14 (by kernel_rfl)
    (of_decide_eq_true (by kernel_rfl)) (by unfold Func.isWrapper; first | (rw [if_pos (by decide +kernel)]; kernel_rfl) | (rw [if_neg (by decide +kernel)]; exact ⟨rfl, rfl⟩))
    (fun os started H enc _ => runEvents_lifted os started H enc)

set_option maxRecDepth 100000 in
/-- **RunEvents.** -/
theorem runEvents_holds : Rows.RunEventsCardSaid :=
  Claim7.holds_tied_plain_at .later [] [.data] true (true, "bfd71dfb10269e8ba6e027be74d69a4e50b0edb49cced56766909c0e9f3902d6") false
    runEvents_row (fun _ h => by cases h) (by kernel_rfl) (fun _ h => by cases h) runEvents_row_tie rfl ⟨rfl, rfl⟩ (by kernel_rfl) rfl
    (fun f fn hf hfn => by
      obtain rfl : f = 14 := Option.some.inj ((show Tryd.prog.funcNamed "joinery/joinerylaw08.RunEvents" = some 14 by kernel_rfl).symm.trans hf) |>.symm
      obtain rfl : fn = Tryd.f14 := (Option.some.inj (Tryd.func14.symm.trans hfn)).symm
      exact ⟨by kernel_rfl, fun j t ht => by
        have hall : (Tryd.f14.params.toList.all fun u => !Tryd.prog.wantsStandIn u) = true := by kernel_rfl
        have hm : t ∈ Tryd.f14.params.toList := by
          have := Array.mem_of_getElem? ht
          simpa using this
        exact (show Tryd.prog.wantsStandIn t = false by simpa using List.all_eq_true.1 hall t hm)⟩)
    (by kernel_rfl)
end Go.Proofs.YtbkbehkjndmabaaDoor


