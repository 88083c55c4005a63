/-
  RunGoes, of every function and case and more fuel.
-/
import Derived.Test.YtbkbehkjndmabaaDoorZ10
namespace Go.Proofs.YtbkbehkjndmabaaDoor
open Go.ChangeShapes Go.WideShapes Go.ChangeAt Go.RowKit
set_option linter.unusedVariables false
set_option linter.unusedSimpArgs false
set_option maxHeartbeats 8000000 in
theorem RunGoes_ok (f : List Ins) (c : Cs) (more : Nat) (hmore : more < 256) (hR : c.R.length = 8) : Pure Tryd.prog 11 [encFn f, csA c, .int .u8 (more : Int)] (.bool true) := by
  intro H
  refine ACalls.go joinerylaw08_RunGoes.low (by simp) fun hcl => ?_
  have hil : (ic c.R).length = 8 := by rw [ic_len, hR]
  have hgr := law08_Great_ok f c hR
  have hF := ref08_Fair_ok f c hR
  by_cases hg : csGreat f c = true
  · rw [hg] at hgr
    rw [csA_eq] at *
    unfold encFn at *
    clear hg hF
    replace hgr := Hold.mk hgr
    replace hR := Hold.mk hR
    repeat' (first | simp only [seval, evx, beq_self_eq_true, sb, ew, ec, evs_eq, encEv_def, List.map_nil, List.length_nil, beq_self_eq_true, *] | simp (disch := omega) only [if_pos, if_neg] | refine R.seq ?_ | refine LCB.text ?_ | refine LCB.quiet rfl ?_ | refine R.anyX ?_ | refine R.block ?_ | refine LCB.skip ?_ | refine LCB.exit ?_ | refine LCB.ret ?_ | ((first | refine RetOk.val hcl ?_ | refine Weak.at hcl ?_); simp only [seval, evw, List.forall_mem_cons, List.forall_mem_map, List.forall_mem_append, List.not_mem_nil, sb, ew, ec, evs_eq, encEv_def, List.map_nil, List.length_nil, beq_self_eq_true, *]) | ((first | refine LCB.cond (by simp only [seval, evx] <;> rfl) ?_ ?_ | refine wpG_split (by simp only [seval, evx] <;> rfl) ?_ ?_ | refine wxG_split (by simp only [seval, evx] <;> rfl) ?_ ?_) <;> (intro hc; try simp only [seval, nf] at hc)) | refine ACalls.inst ?_ | refine CallX.inst ?_ | (with_reducible refine And.intro ?_ ?_) | exact True.intro | refine ACalls.pure hgr.of ?_ | refine CallX.pure hgr.of ?_ | refine ACalls.pure hrun.of ?_ | refine CallX.pure hrun.of ?_ | refine ACalls.pure hrun2.of ?_ | refine CallX.pure hrun2.of ?_ | refine ACalls.pure hAs.of ?_ | refine CallX.pure hAs.of ?_ | refine ACalls.pure hB.of ?_ | refine CallX.pure hB.of ?_ | refine ACalls.pure hS.of ?_ | refine CallX.pure hS.of ?_ | refine ACalls.pure hF.of ?_ | refine CallX.pure hF.of ?_ | refine ACalls.pure hSame.of ?_ | refine CallX.pure hSame.of ?_ | refine ACalls.pure hAs2.of ?_ | refine CallX.pure hAs2.of ?_ | refine ACalls.pure hS2.of ?_ | refine CallX.pure hS2.of ?_ | refine ACalls.pure hBe.of ?_ | refine CallX.pure hBe.of ?_ | refine ACalls.pure hOn.of ?_ | refine CallX.pure hOn.of ?_ | refine ACalls.pure hRF.of ?_ | refine CallX.pure hRF.of ?_)
  obtain ⟨q1, q2, q3, q4⟩ := great8_not hg
  have hg2 : csGreat f c = false := by simpa using hg
  rw [hg2] at hgr
  clear hg hg2
  by_cases hfair : fnOk f = true ∧ csRight c = true
  case neg =>
    have hff : (fnOk f && csRight c) = false := by
      rw [Bool.eq_false_iff]
      intro h
      rw [Bool.and_eq_true] at h
      exact hfair h
    rw [hff] at hF
    rw [csA_eq] at *
    unfold encFn at *
    clear hfair hff
    replace hgr := Hold.mk hgr
    replace hF := Hold.mk hF
    replace hR := Hold.mk hR
    repeat' (first | simp only [seval, evx, beq_self_eq_true, sb, ew, ec, evs_eq, encEv_def, List.map_nil, List.length_nil, beq_self_eq_true, *] | simp (disch := omega) only [if_pos, if_neg] | refine R.seq ?_ | refine LCB.text ?_ | refine LCB.quiet rfl ?_ | refine R.anyX ?_ | refine R.block ?_ | refine LCB.skip ?_ | refine LCB.exit ?_ | refine LCB.ret ?_ | ((first | refine RetOk.val hcl ?_ | refine Weak.at hcl ?_); simp only [seval, evw, List.forall_mem_cons, List.forall_mem_map, List.forall_mem_append, List.not_mem_nil, sb, ew, ec, evs_eq, encEv_def, List.map_nil, List.length_nil, beq_self_eq_true, *]) | ((first | refine LCB.cond (by simp only [seval, evx] <;> rfl) ?_ ?_ | refine wpG_split (by simp only [seval, evx] <;> rfl) ?_ ?_ | refine wxG_split (by simp only [seval, evx] <;> rfl) ?_ ?_) <;> (intro hc; try simp only [seval, nf] at hc)) | refine ACalls.inst ?_ | refine CallX.inst ?_ | (with_reducible refine And.intro ?_ ?_) | exact True.intro | refine ACalls.pure hgr.of ?_ | refine CallX.pure hgr.of ?_ | refine ACalls.pure hrun.of ?_ | refine CallX.pure hrun.of ?_ | refine ACalls.pure hrun2.of ?_ | refine CallX.pure hrun2.of ?_ | refine ACalls.pure hAs.of ?_ | refine CallX.pure hAs.of ?_ | refine ACalls.pure hB.of ?_ | refine CallX.pure hB.of ?_ | refine ACalls.pure hS.of ?_ | refine CallX.pure hS.of ?_ | refine ACalls.pure hF.of ?_ | refine CallX.pure hF.of ?_ | refine ACalls.pure hSame.of ?_ | refine CallX.pure hSame.of ?_ | refine ACalls.pure hAs2.of ?_ | refine CallX.pure hAs2.of ?_ | refine ACalls.pure hS2.of ?_ | refine CallX.pure hS2.of ?_ | refine ACalls.pure hBe.of ?_ | refine CallX.pure hBe.of ?_ | refine ACalls.pure hOn.of ?_ | refine CallX.pure hOn.of ?_ | refine ACalls.pure hRF.of ?_ | refine CallX.pure hRF.of ?_)
  obtain ⟨hf1, hf2⟩ := hfair
  have hrun := run_Run_ok f c hR (by omega)
  unfold runA at hrun
  have k3 := hf2
  unfold csRight at k3
  simp only [Bool.and_eq_true, decide_eq_true_eq] at k3
  obtain ⟨u1, u2, u3, u4⟩ := k3
  obtain ⟨v1, v2, v3, v4⟩ := runF_inv (f := f) hR u4
  obtain ⟨w1, w2, w3, w4, w5⟩ := runF_count (f := f) u3
  rw [hf1, hf2] at hrun hF
  rw [Bool.and_true, if_pos rfl] at hrun
  rw [Bool.and_true] at hF
  obtain ⟨Rg, hp, an, fu⟩ := c
  simp only at hR hil q2 q3 q4 u1 u2 u3 u4 v1 v2 v3 v4 w1 w2 w3 w4 w5
  have y0 : IntKind.i64.wrap (more : Int) = (more : Int) := by rw [IntKind.wrap_i64]; omega
  have y1 : IntKind.i64.wrap (fu + (more : Int)) = fu + (more : Int) := by rw [IntKind.wrap_i64]; omega
  have y2 : ¬ (5000 : Int) < fu + (more : Int) := by omega
  have y3 : ¬ fu + (more : Int) > (5000 : Int) := by omega
  have hr0 : csRight ⟨Rg, hp, an, fu + (more : Int)⟩ = true := by
    unfold csRight
    simp only [Bool.and_eq_true, decide_eq_true_eq]
    exact ⟨u1, u2, by omega, by omega⟩
  have hrun2 := run_Run_ok f ⟨Rg, hp, an, fu + (more : Int)⟩ hR (by omega)
  unfold runA at hrun2
  rw [hf1, hr0, Bool.and_true, if_pos rfl] at hrun2
  obtain ⟨v1', v2', v3', v4'⟩ := runF_inv (f := f) (c := ⟨Rg, hp, an, fu + (more : Int)⟩) hR (by show fu + (more : Int) ≤ 5000; omega)
  have hm := runF_more (f := f) (R := Rg) (hp := hp) (an := an) u3 more
  have hfl : 0 < f.length := by
    cases f
    · exact absurd hf1 (by decide)
    · exact Nat.succ_pos _
  have hsr : (runF f ⟨Rg, hp, an, fu⟩).1.out.how = 0 → stRight f (runF f ⟨Rg, hp, an, fu⟩).2 = true := fun g => onF_right fu.toNat _ tr0 (fun _ => beginS_right hf1 hf2 hfl) g
  have hRF := ref04_Right_ok f
  rw [hf1] at hRF
  generalize runF f ⟨Rg, hp, an, fu⟩ = RES at *
  generalize runF f ⟨Rg, hp, an, fu + (more : Int)⟩ = RES2 at *
  obtain ⟨t, s⟩ := RES
  simp only at hrun v1 v2 v3 v4 w1 w2 w3 w4 w5 hm hsr
  have hOn := ref08_On_ok f s t an more v1 (by omega) (by omega) hsr (by omega) w1 (by omega) w4 (by omega)
  rw [← hm] at hOn
  obtain ⟨t2, s2⟩ := RES2
  simp only at hrun2 v1' v2' v3' v4' hOn
  have hwl2 : (wc s.L).length = 48 := by rw [wc_len, v1]
  have hwl3 : (wc s2.L).length = 48 := by rw [wc_len, v1']
  have hSame := ref08_Same_ok t2 t2 (by omega) (by omega)
  have hAs := law07_As_ok s v1
  have hAs2 := law07_As_ok s2 v1'
  have hS2 := ref07_Same_ok s2 s2 v1' v1' (by omega)
  rw [decide_eq_true rfl] at hSame hS2
  have x1 : ¬ fu < t.steps := by omega
  have x1' : ¬ t.steps > fu := by omega
  have x2 : ¬ t.steps < t.work := by omega
  have x2' : ¬ t.work > t.steps := by omega
  have x4 : ∀ z : Int, ¬ z < z := fun z => Int.lt_irrefl z
  obtain ⟨tev, ⟨th, tv, thp⟩, tst, twk⟩ := t
  simp only at w3 x1 x1' x2 x2' v3 v4 w1 w2 w4 w5
  simp only [stA_eq, rsA_eq, trA_eq, evs_eq] at *
  simp only [csA_eq] at *
  unfold encFn ints at *
  clear hf1 hf2 u1 u2 u3 u4 v1 v2 v3 v4 v1' v2' v3' v4' q1 q2 q3 q4 w1 w2 w4 w5 hr0 hm hsr
  replace hgr := Hold.mk hgr
  replace hrun := Hold.mk hrun
  replace hrun2 := Hold.mk hrun2
  replace hF := Hold.mk hF
  replace hSame := Hold.mk hSame
  replace hAs := Hold.mk hAs
  replace hAs2 := Hold.mk hAs2
  replace hS2 := Hold.mk hS2
  replace hOn := Hold.mk hOn
  replace hRF := Hold.mk hRF
  replace hR := Hold.mk hR
  by_cases k1 : th = 0
  · have x3 := w3 k1
    clear w3
    subst k1
    subst x3
    repeat' (first | simp only [seval, evx, beq_self_eq_true, sb, ew, ec, evs_eq, encEv_def, List.map_nil, List.length_nil, beq_self_eq_true, *] | simp (disch := omega) only [if_pos, if_neg] | refine R.seq ?_ | refine LCB.text ?_ | refine LCB.quiet rfl ?_ | refine R.anyX ?_ | refine R.block ?_ | refine LCB.skip ?_ | refine LCB.exit ?_ | refine LCB.ret ?_ | ((first | refine RetOk.val hcl ?_ | refine Weak.at hcl ?_); simp only [seval, evw, List.forall_mem_cons, List.forall_mem_map, List.forall_mem_append, List.not_mem_nil, sb, ew, ec, evs_eq, encEv_def, List.map_nil, List.length_nil, beq_self_eq_true, *]) | ((first | refine LCB.cond (by simp only [seval, evx] <;> rfl) ?_ ?_ | refine wpG_split (by simp only [seval, evx] <;> rfl) ?_ ?_ | refine wxG_split (by simp only [seval, evx] <;> rfl) ?_ ?_) <;> (intro hc; try simp only [seval, nf] at hc)) | refine ACalls.inst ?_ | refine CallX.inst ?_ | (with_reducible refine And.intro ?_ ?_) | exact True.intro | refine ACalls.pure hgr.of ?_ | refine CallX.pure hgr.of ?_ | refine ACalls.pure hrun.of ?_ | refine CallX.pure hrun.of ?_ | refine ACalls.pure hrun2.of ?_ | refine CallX.pure hrun2.of ?_ | refine ACalls.pure hAs.of ?_ | refine CallX.pure hAs.of ?_ | refine ACalls.pure hB.of ?_ | refine CallX.pure hB.of ?_ | refine ACalls.pure hS.of ?_ | refine CallX.pure hS.of ?_ | refine ACalls.pure hF.of ?_ | refine CallX.pure hF.of ?_ | refine ACalls.pure hSame.of ?_ | refine CallX.pure hSame.of ?_ | refine ACalls.pure hAs2.of ?_ | refine CallX.pure hAs2.of ?_ | refine ACalls.pure hS2.of ?_ | refine CallX.pure hS2.of ?_ | refine ACalls.pure hBe.of ?_ | refine CallX.pure hBe.of ?_ | refine ACalls.pure hOn.of ?_ | refine CallX.pure hOn.of ?_ | refine ACalls.pure hRF.of ?_ | refine CallX.pure hRF.of ?_)
  · clear w3
    repeat' (first | simp only [seval, evx, beq_self_eq_true, sb, ew, ec, evs_eq, encEv_def, List.map_nil, List.length_nil, beq_self_eq_true, *] | simp (disch := omega) only [if_pos, if_neg] | refine R.seq ?_ | refine LCB.text ?_ | refine LCB.quiet rfl ?_ | refine R.anyX ?_ | refine R.block ?_ | refine LCB.skip ?_ | refine LCB.exit ?_ | refine LCB.ret ?_ | ((first | refine RetOk.val hcl ?_ | refine Weak.at hcl ?_); simp only [seval, evw, List.forall_mem_cons, List.forall_mem_map, List.forall_mem_append, List.not_mem_nil, sb, ew, ec, evs_eq, encEv_def, List.map_nil, List.length_nil, beq_self_eq_true, *]) | ((first | refine LCB.cond (by simp only [seval, evx] <;> rfl) ?_ ?_ | refine wpG_split (by simp only [seval, evx] <;> rfl) ?_ ?_ | refine wxG_split (by simp only [seval, evx] <;> rfl) ?_ ?_) <;> (intro hc; try simp only [seval, nf] at hc)) | refine ACalls.inst ?_ | refine CallX.inst ?_ | (with_reducible refine And.intro ?_ ?_) | exact True.intro | refine ACalls.pure hgr.of ?_ | refine CallX.pure hgr.of ?_ | refine ACalls.pure hrun.of ?_ | refine CallX.pure hrun.of ?_ | refine ACalls.pure hrun2.of ?_ | refine CallX.pure hrun2.of ?_ | refine ACalls.pure hAs.of ?_ | refine CallX.pure hAs.of ?_ | refine ACalls.pure hB.of ?_ | refine CallX.pure hB.of ?_ | refine ACalls.pure hS.of ?_ | refine CallX.pure hS.of ?_ | refine ACalls.pure hF.of ?_ | refine CallX.pure hF.of ?_ | refine ACalls.pure hSame.of ?_ | refine CallX.pure hSame.of ?_ | refine ACalls.pure hAs2.of ?_ | refine CallX.pure hAs2.of ?_ | refine ACalls.pure hS2.of ?_ | refine CallX.pure hS2.of ?_ | refine ACalls.pure hBe.of ?_ | refine CallX.pure hBe.of ?_ | refine ACalls.pure hOn.of ?_ | refine CallX.pure hOn.of ?_ | refine ACalls.pure hRF.of ?_ | refine CallX.pure hRF.of ?_)

theorem runGoes_law : ∀ av, FitAs [.one (.list insSh), .agg csSh, .one (.int .u8)] av → ACalls Tryd.prog 11 av [] fun r _ => r = .bool true := by
  rintro _ ⟨a, _, rfl, h1, b, _, rfl, h2, d, _, rfl, h3, rfl⟩
  obtain ⟨f, rfl, hf, _⟩ := h1.inss
  obtain ⟨c, rfl, hc, _⟩ := h2.cs
  obtain ⟨n, rfl, hn⟩ := h3.u8
  exact (RunGoes_ok f c n hn hc).law

set_option maxRecDepth 100000 in
theorem runGoes_lifted (os : Os) (started : os.Started) (H : Type) (enc : TypeId × Value → H) :
    ReturnsInHanded {} Tryd.checked os 11 .any (fun w args => (Rows.runGoesSpec.pre enc Tryd.prog Tryd.f11 [] false w args ∧ laidMetH Tryd.prog laidL w) ∧ sizedMet enc Tryd.prog Tryd.f11 (OpenSpec.ofChange Rows.runGoesSpec) false w args)
      (Rows.runGoesSpec.post enc Tryd.prog Tryd.f11 false true false false) := by
  refine returnsInHanded_of_change_and (C := Tryd.checked) (X := fun w _ => laidMetH Tryd.prog laidL w) (fun _ _ _ hh h => h.of_heap hh) own_ok started (by kernel_rfl) Tryd.func11
    (ChangeSpec.witness_shaped (enc := enc) (C := Tryd.checked) (os := os) (X := fun w _ => laidMetH Tryd.prog laidL w) false (World.doorLaid Tryd.prog 400 os) #[.slice none 0 0, (.agg #[.int .i64 0, .int .i64 0, .int .i64 0, .int .i64 0, .int .i64 0, .int .i64 0, .int .i64 0, .int .i64 0, .slice none 0 0, .slice none 0 0, .int .i64 0]), .int .u8 0] 8 rfl (World.shaped_of_RefB (by kernel_rfl) (by kernel_rfl)) (by kernel_rfl) (by kernel_rfl) (by kernel_rfl) (door_met os _)) ?_
  intro W base args ds gs before hval0 hW _ _ hL _
  exact law_contract (base := base) laid_ok rfl (by kernel_rfl) (by kernel_rfl) (by kernel_rfl)
    (fun ds hl => by
      match ds, hl with
      | [d1, d2, d3], _ => rfl) (glob_of_laid hL) runGoes_law hval0 hW

set_option maxRecDepth 100000 in
theorem runGoes_row : Rows.RunGoesSaid :=
  OpenClaim.holds_of_wide 11 Tryd.f11 rfl rfl rfl rfl rfl rfl rfl ⟨rfl, rfl, rfl, rfl, rfl⟩ rfl rfl rfl rfl rfl (by kernel_rfl) Tryd.func11 (by kernel_rfl)
    (of_decide_eq_true (by kernel_rfl)) (by unfold Func.isWrapper; first | (rw [if_pos (by decide +kernel)]; kernel_rfl) | (rw [if_neg (by decide +kernel)]; exact ⟨rfl, rfl⟩))
    (fun os started H enc _ => runGoes_lifted os started H enc)

set_option maxRecDepth 100000 in
/-- **RunGoes.** -/
theorem runGoes_holds : Rows.RunGoesCardSaid :=
  Claim7.holds_tied_plain_at .later [] [.data] true (true, "bfd71dfb10269e8ba6e027be74d69a4e50b0edb49cced56766909c0e9f3902d6") false
    runGoes_row (fun _ h => by cases h) (by kernel_rfl) (fun _ h => by cases h) runGoes_row_tie rfl ⟨rfl, rfl⟩ (by kernel_rfl) rfl
    (fun f fn hf hfn => by
      obtain rfl : f = 11 := Option.some.inj ((show Tryd.prog.funcNamed "joinery/joinerylaw08.RunGoes" = some 11 by kernel_rfl).symm.trans hf) |>.symm
      obtain rfl : fn = Tryd.f11 := (Option.some.inj (Tryd.func11.symm.trans hfn)).symm
      exact ⟨by kernel_rfl, fun j t ht => by
        have hall : (Tryd.f11.params.toList.all fun u => !Tryd.prog.wantsStandIn u) = true := by kernel_rfl
        have hm : t ∈ Tryd.f11.params.toList := by
          have := Array.mem_of_getElem? ht
          simpa using this
        exact (show Tryd.prog.wantsStandIn t = false by simpa using List.all_eq_true.1 hall t hm)⟩)
    (by kernel_rfl)
end Go.Proofs.YtbkbehkjndmabaaDoor


