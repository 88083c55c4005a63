/-
  The last step: cases. RunRuns, of every function and case.
-/
import Derived.Test.YtbkbehkjndmabaaDoorZ9
namespace Go.Proofs.YtbkbehkjndmabaaDoor
open Go.ChangeShapes Go.WideShapes Go.ChangeAt Go.RowKit
set_option linter.unusedVariables false
set_option linter.unusedSimpArgs false
theorem fit_nums {rest : List Sh} : ∀ (n : Nat) (r : List AV), FitR (List.replicate n (.int .i64) ++ rest) r → ∃ (R : List Int) (r' : List AV), r = ic R ++ r' ∧ R.length = n ∧ (∀ x ∈ R, in64 x) ∧ FitR rest r'
  | 0, r, h => ⟨[], r, rfl, rfl, by simp, by simpa using h⟩
  | n + 1, r, h => by
    have e : List.replicate (n + 1) (Sh.int .i64) ++ rest = .int .i64 :: (List.replicate n (.int .i64) ++ rest) := by rw [List.replicate_succ]; rfl
    rw [e] at h
    obtain ⟨a, r1, rfl, h1, h2⟩ := h.cons_inv
    obtain ⟨v, rfl, hv⟩ := h1.i64
    obtain ⟨R, r', rfl, h5, h6, h7⟩ := fit_nums n r1 h2
    exact ⟨v :: R, r', rfl, by simp [h5], by simpa using ⟨hv, h6⟩, h7⟩
abbrev csSh : List Sh := List.replicate 8 (.int .i64) ++ [.list [.int .i64], .list [.int .i64], .int .i64]
theorem FitA.cs {a : AV} (h : FitA (.agg csSh) a) : ∃ c : Cs, a = csA c ∧ c.R.length = 8 ∧ c.heap.length ≤ maxLen ∧ c.ans.length ≤ maxLen ∧ in64 c.fuel := by
  obtain ⟨r, rfl, hr⟩ := h
  obtain ⟨R, r1, rfl, h1, h2, h3⟩ := fit_nums 8 r hr
  obtain ⟨a, r2, rfl, g1, g2⟩ := h3.cons_inv
  obtain ⟨b, r3, rfl, g3, g4⟩ := g2.cons_inv
  obtain ⟨c, r4, rfl, g5, g6⟩ := g4.cons_inv
  have := g6.nil_inv
  subst this
  obtain ⟨hp, rfl, k1, k2⟩ := g1.ints
  obtain ⟨an, rfl, k3, k4⟩ := g3.ints
  obtain ⟨fu, rfl, k5⟩ := g5.i64
  exact ⟨⟨R, hp, an, fu⟩, rfl, h1, k2, k4, k5⟩
theorem onF_inv (f : List Ins) (ans : List Int) : ∀ (n : Nat) (s : St) (t : Tr) (K : Nat), t.out.heap.length ≤ K → s.heap.length ≤ K →
    (onF f ans n s t).2.L.length = s.L.length ∧ (onF f ans n s t).2.heap.length = s.heap.length ∧ (onF f ans n s t).1.evs.length ≤ t.evs.length + n ∧ (onF f ans n s t).1.out.heap.length ≤ K
  | 0, s, t, K, h1, h2 => ⟨rfl, rfl, Nat.le_refl _, h1⟩
  | n + 1, s, t, K, h1, h2 => by
    unfold onF
    split
    · have i1 := stepF_len f s ans
      have i2 := stepF_heap f s ans
      have i3 := stepF_evs f s ans
      have i4 := stepF_out f s ans
      have h := onF_inv f ans n (stepF f s ans).1 (nextT f ans s t) K (by show (stepF f s ans).2.2.heap.length ≤ K; omega) (by omega)
      have e : (nextT f ans s t).evs.length = t.evs.length + (stepF f s ans).2.1.length := List.length_append
      obtain ⟨j1, j2, j3, j4⟩ := h
      exact ⟨by omega, by omega, by omega, j4⟩
    · exact ⟨rfl, rfl, Nat.le_add_right _ _, h1⟩
theorem runF_inv {f : List Ins} {c : Cs} (hR : c.R.length = 8) (hf : c.fuel ≤ 5000) : (runF f c).2.L.length = 24 ∧ (runF f c).2.heap.length = c.heap.length ∧ (runF f c).1.evs.length ≤ 5000 ∧ (runF f c).1.out.heap.length ≤ c.heap.length := by
  obtain ⟨h1, h2, h3, h4⟩ := onF_inv f c.ans c.fuel.toNat (beginS c) tr0 c.heap.length (Nat.zero_le _) (Nat.le_refl _)
  refine ⟨by rw [← beginS_len hR]; exact h1, h2, ?_, h4⟩
  have e : tr0.evs.length = 0 := rfl
  rw [e] at h3
  have : (runF f c).1.evs.length ≤ 0 + c.fuel.toNat := h3
  omega
theorem great8_not {f : List Ins} {c : Cs} (h : ¬ csGreat f c = true) : f.length ≤ 300 ∧ c.heap.length ≤ 100 ∧ c.ans.length ≤ 1000 ∧ (c.fuel ≤ 1000 ∨ 5000 < c.fuel) := by
  unfold csGreat at h
  simp only [Bool.or_eq_true, Bool.and_eq_true, decide_eq_true_eq, not_or, not_and] at h
  obtain ⟨h1, h2, h3, h4⟩ := h
  refine ⟨by omega, by omega, by omega, ?_⟩
  by_cases h5 : 1000 < c.fuel
  · have := h4 h5
    omega
  · omega
set_option maxHeartbeats 8000000 in
theorem RunRuns_ok (f : List Ins) (c : Cs) (hR : c.R.length = 8) : Pure Tryd.prog 9 [encFn f, csA c] (.bool true) := by
  intro H
  refine ACalls.go joinerylaw08_RunRuns.low (by simp) fun hcl => ?_
  have hil : (ic c.R).length = 8 := by rw [ic_len, hR]
  have hgr := law08_Great_ok f c hR
  by_cases hg : csGreat f c = true
  · rw [hg] at hgr
    rw [csA_eq] at *
    unfold encFn at *
    clear hg
    replace hgr := Hold.mk hgr
    replace hR := Hold.mk hR
    repeat' (first | simp only [seval, evx, beq_self_eq_true, sb, ew, ec, evs_eq, encEv_def, List.map_nil, beq_self_eq_true, *] | simp (disch := omega) only [if_pos, if_neg] | refine R.seq ?_ | refine LCB.text ?_ | refine LCB.quiet rfl ?_ | refine R.anyX ?_ | refine R.block ?_ | refine LCB.skip ?_ | refine LCB.exit ?_ | refine LCB.ret ?_ | ((first | refine RetOk.val hcl ?_ | refine Weak.at hcl ?_); simp only [seval, evw, List.forall_mem_cons, List.forall_mem_map, List.forall_mem_append, List.not_mem_nil, sb, ew, ec, evs_eq, encEv_def, List.map_nil, beq_self_eq_true, *]) | ((first | refine LCB.cond (by simp only [seval, evx] <;> rfl) ?_ ?_ | refine wpG_split (by simp only [seval, evx] <;> rfl) ?_ ?_ | refine wxG_split (by simp only [seval, evx] <;> rfl) ?_ ?_) <;> (intro hc; try simp only [seval, nf] at hc)) | refine ACalls.inst ?_ | refine CallX.inst ?_ | (with_reducible refine And.intro ?_ ?_) | exact True.intro | refine ACalls.pure hgr.of ?_ | refine CallX.pure hgr.of ?_ | refine ACalls.pure hrun.of ?_ | refine CallX.pure hrun.of ?_ | refine ACalls.pure hr1.of ?_ | refine CallX.pure hr1.of ?_ | refine ACalls.pure hr2.of ?_ | refine CallX.pure hr2.of ?_ | refine ACalls.pure hb.of ?_ | refine CallX.pure hb.of ?_ | refine ACalls.pure hAs.of ?_ | refine CallX.pure hAs.of ?_ | refine ACalls.pure hB.of ?_ | refine CallX.pure hB.of ?_ | refine ACalls.pure hS.of ?_ | refine CallX.pure hS.of ?_ | refine ACalls.pure hF.of ?_ | refine CallX.pure hF.of ?_ | refine ACalls.pure hRun2.of ?_ | refine CallX.pure hRun2.of ?_ | refine ACalls.pure hSame.of ?_ | refine CallX.pure hSame.of ?_ | refine ACalls.pure hAs2.of ?_ | refine CallX.pure hAs2.of ?_ | refine ACalls.pure hS2.of ?_ | refine CallX.pure hS2.of ?_)
  obtain ⟨q1, q2, q3, q4⟩ := great8_not hg
  have hg2 : csGreat f c = false := by simpa using hg
  rw [hg2] at hgr
  clear hg hg2
  have hrun := run_Run_ok f c hR (by omega)
  have hr1 := run_Right_ok c hR
  have hr2 := ref08_Right_ok c hR
  have hb := run_Begin_ok c hR (by omega)
  have hlen := beginS_len hR
  have hAs := law07_As_ok (beginS c) hlen
  have hB := ref08_Begin_ok c hR
  have hS := ref07_Same_ok (beginS c) (beginS c) hlen hlen (by show c.heap.length ≤ _; omega)
  rw [decide_eq_true rfl] at hS
  have hF := ref08_Fair_ok f c hR
  unfold runA at hrun
  have hwl : (wc (beginS c).L).length = 48 := by rw [wc_len, hlen]
  by_cases hfair : fnOk f = true ∧ csRight c = true
  · obtain ⟨hf1, hf2⟩ := hfair
    have k3 := hf2
    unfold csRight at k3
    simp only [Bool.and_eq_true, decide_eq_true_eq] at k3
    obtain ⟨u1, u2, u3, u4⟩ := k3
    have hRun2 := ref08_Run_ok f c hR (by omega) hf1 hf2
    obtain ⟨v1, v2, v3, v4⟩ := runF_inv (f := f) hR u4
    rw [hf1, hf2] at hrun hF
    rw [hf2] at hr1 hr2
    rw [Bool.and_true, if_pos rfl] at hrun
    rw [Bool.and_true] at hF
    generalize runF f c = RES at *
    obtain ⟨t, s⟩ := RES
    simp only at hrun hRun2 v1 v2 v3 v4
    have hwl2 : (wc s.L).length = 48 := by rw [wc_len, v1]
    have hSame := ref08_Same_ok t t (by omega) (by omega)
    have hAs2 := law07_As_ok s v1
    have hS2 := ref07_Same_ok s s v1 v1 (by omega)
    rw [decide_eq_true rfl] at hSame hS2
    clear hf1 hf2 u1 u2 u3 u4 v1 v2 v3 v4 q1 q2 q3 q4 hlen
    generalize beginS c = s0 at *
    simp only [stA_eq, rsA_eq, trA_eq] at *
    rw [csA_eq] at *
    unfold encFn at *
    replace hgr := Hold.mk hgr
    replace hrun := Hold.mk hrun
    replace hr1 := Hold.mk hr1
    replace hr2 := Hold.mk hr2
    replace hb := Hold.mk hb
    replace hAs := Hold.mk hAs
    replace hB := Hold.mk hB
    replace hS := Hold.mk hS
    replace hF := Hold.mk hF
    replace hRun2 := Hold.mk hRun2
    replace hSame := Hold.mk hSame
    replace hAs2 := Hold.mk hAs2
    replace hS2 := Hold.mk hS2
    replace hR := Hold.mk hR
    repeat' (first | simp only [seval, evx, beq_self_eq_true, sb, ew, ec, evs_eq, encEv_def, List.map_nil, beq_self_eq_true, *] | simp (disch := omega) only [if_pos, if_neg] | refine R.seq ?_ | refine LCB.text ?_ | refine LCB.quiet rfl ?_ | refine R.anyX ?_ | refine R.block ?_ | refine LCB.skip ?_ | refine LCB.exit ?_ | refine LCB.ret ?_ | ((first | refine RetOk.val hcl ?_ | refine Weak.at hcl ?_); simp only [seval, evw, List.forall_mem_cons, List.forall_mem_map, List.forall_mem_append, List.not_mem_nil, sb, ew, ec, evs_eq, encEv_def, List.map_nil, beq_self_eq_true, *]) | ((first | refine LCB.cond (by simp only [seval, evx] <;> rfl) ?_ ?_ | refine wpG_split (by simp only [seval, evx] <;> rfl) ?_ ?_ | refine wxG_split (by simp only [seval, evx] <;> rfl) ?_ ?_) <;> (intro hc; try simp only [seval, nf] at hc)) | refine ACalls.inst ?_ | refine CallX.inst ?_ | (with_reducible refine And.intro ?_ ?_) | exact True.intro | refine ACalls.pure hgr.of ?_ | refine CallX.pure hgr.of ?_ | refine ACalls.pure hrun.of ?_ | refine CallX.pure hrun.of ?_ | refine ACalls.pure hr1.of ?_ | refine CallX.pure hr1.of ?_ | refine ACalls.pure hr2.of ?_ | refine CallX.pure hr2.of ?_ | refine ACalls.pure hb.of ?_ | refine CallX.pure hb.of ?_ | refine ACalls.pure hAs.of ?_ | refine CallX.pure hAs.of ?_ | refine ACalls.pure hB.of ?_ | refine CallX.pure hB.of ?_ | refine ACalls.pure hS.of ?_ | refine CallX.pure hS.of ?_ | refine ACalls.pure hF.of ?_ | refine CallX.pure hF.of ?_ | refine ACalls.pure hRun2.of ?_ | refine CallX.pure hRun2.of ?_ | refine ACalls.pure hSame.of ?_ | refine CallX.pure hSame.of ?_ | refine ACalls.pure hAs2.of ?_ | refine CallX.pure hAs2.of ?_ | refine ACalls.pure hS2.of ?_ | refine CallX.pure hS2.of ?_)
  · have hff : (fnOk f && csRight c) = false := by
      rw [Bool.eq_false_iff]
      intro h
      rw [Bool.and_eq_true] at h
      exact hfair h
    rw [hff] at hrun hF
    rw [if_neg (by decide)] at hrun
    have hSame := ref08_Same_ok tr0 tr0 (by decide) (by decide)
    rw [decide_eq_true rfl] at hSame
    clear hfair hff q1 q2 q3 q4 hlen
    generalize beginS c = s0 at *
    generalize csRight c = b at *
    rw [tr0_eq, st0_eq] at hrun
    rw [tr0_eq] at hSame
    replace hSame := Hold.mk (Pure.views (args := [.agg [.list [], .int .i64 0, .int .i64 0, .list [], .int .i64 0, .int .i64 0], .agg [.imm (.slice none 0 0), .int .i64 0, .int .i64 0, .imm (.slice none 0 0), .int .i64 0, .int .i64 0]]) (fun H => by simp only [seval, evw, lk, List.forall_mem_cons, List.forall_mem_map, List.forall_mem_append, List.not_mem_nil, sb, ew, ec, evs_eq, encEv_def, List.map_nil, beq_self_eq_true, *]) hSame)
    simp only [stA_eq, rsA_eq] at *
    rw [csA_eq] at *
    unfold encFn at *
    replace hgr := Hold.mk hgr
    replace hrun := Hold.mk hrun
    replace hr1 := Hold.mk hr1
    replace hr2 := Hold.mk hr2
    replace hb := Hold.mk hb
    replace hAs := Hold.mk hAs
    replace hB := Hold.mk hB
    replace hS := Hold.mk hS
    replace hF := Hold.mk hF
    replace hR := Hold.mk hR
    cases b
    · repeat' (first | simp only [seval, evx, beq_self_eq_true, sb, ew, ec, evs_eq, encEv_def, List.map_nil, beq_self_eq_true, *] | simp (disch := omega) only [if_pos, if_neg] | refine R.seq ?_ | refine LCB.text ?_ | refine LCB.quiet rfl ?_ | refine R.anyX ?_ | refine R.block ?_ | refine LCB.skip ?_ | refine LCB.exit ?_ | refine LCB.ret ?_ | ((first | refine RetOk.val hcl ?_ | refine Weak.at hcl ?_); simp only [seval, evw, List.forall_mem_cons, List.forall_mem_map, List.forall_mem_append, List.not_mem_nil, sb, ew, ec, evs_eq, encEv_def, List.map_nil, beq_self_eq_true, *]) | ((first | refine LCB.cond (by simp only [seval, evx] <;> rfl) ?_ ?_ | refine wpG_split (by simp only [seval, evx] <;> rfl) ?_ ?_ | refine wxG_split (by simp only [seval, evx] <;> rfl) ?_ ?_) <;> (intro hc; try simp only [seval, nf] at hc)) | refine ACalls.inst ?_ | refine CallX.inst ?_ | (with_reducible refine And.intro ?_ ?_) | exact True.intro | refine ACalls.pure hgr.of ?_ | refine CallX.pure hgr.of ?_ | refine ACalls.pure hrun.of ?_ | refine CallX.pure hrun.of ?_ | refine ACalls.pure hr1.of ?_ | refine CallX.pure hr1.of ?_ | refine ACalls.pure hr2.of ?_ | refine CallX.pure hr2.of ?_ | refine ACalls.pure hb.of ?_ | refine CallX.pure hb.of ?_ | refine ACalls.pure hAs.of ?_ | refine CallX.pure hAs.of ?_ | refine ACalls.pure hB.of ?_ | refine CallX.pure hB.of ?_ | refine ACalls.pure hS.of ?_ | refine CallX.pure hS.of ?_ | refine ACalls.pure hF.of ?_ | refine CallX.pure hF.of ?_ | refine ACalls.pure hRun2.of ?_ | refine CallX.pure hRun2.of ?_ | refine ACalls.pure hSame.of ?_ | refine CallX.pure hSame.of ?_ | refine ACalls.pure hAs2.of ?_ | refine CallX.pure hAs2.of ?_ | refine ACalls.pure hS2.of ?_ | refine CallX.pure hS2.of ?_)
    · repeat' (first | simp only [seval, evx, beq_self_eq_true, sb, ew, ec, evs_eq, encEv_def, List.map_nil, beq_self_eq_true, *] | simp (disch := omega) only [if_pos, if_neg] | refine R.seq ?_ | refine LCB.text ?_ | refine LCB.quiet rfl ?_ | refine R.anyX ?_ | refine R.block ?_ | refine LCB.skip ?_ | refine LCB.exit ?_ | refine LCB.ret ?_ | ((first | refine RetOk.val hcl ?_ | refine Weak.at hcl ?_); simp only [seval, evw, List.forall_mem_cons, List.forall_mem_map, List.forall_mem_append, List.not_mem_nil, sb, ew, ec, evs_eq, encEv_def, List.map_nil, beq_self_eq_true, *]) | ((first | refine LCB.cond (by simp only [seval, evx] <;> rfl) ?_ ?_ | refine wpG_split (by simp only [seval, evx] <;> rfl) ?_ ?_ | refine wxG_split (by simp only [seval, evx] <;> rfl) ?_ ?_) <;> (intro hc; try simp only [seval, nf] at hc)) | refine ACalls.inst ?_ | refine CallX.inst ?_ | (with_reducible refine And.intro ?_ ?_) | exact True.intro | refine ACalls.pure hgr.of ?_ | refine CallX.pure hgr.of ?_ | refine ACalls.pure hrun.of ?_ | refine CallX.pure hrun.of ?_ | refine ACalls.pure hr1.of ?_ | refine CallX.pure hr1.of ?_ | refine ACalls.pure hr2.of ?_ | refine CallX.pure hr2.of ?_ | refine ACalls.pure hb.of ?_ | refine CallX.pure hb.of ?_ | refine ACalls.pure hAs.of ?_ | refine CallX.pure hAs.of ?_ | refine ACalls.pure hB.of ?_ | refine CallX.pure hB.of ?_ | refine ACalls.pure hS.of ?_ | refine CallX.pure hS.of ?_ | refine ACalls.pure hF.of ?_ | refine CallX.pure hF.of ?_ | refine ACalls.pure hRun2.of ?_ | refine CallX.pure hRun2.of ?_ | refine ACalls.pure hSame.of ?_ | refine CallX.pure hSame.of ?_ | refine ACalls.pure hAs2.of ?_ | refine CallX.pure hAs2.of ?_ | refine ACalls.pure hS2.of ?_ | refine CallX.pure hS2.of ?_)

theorem runRuns_law : ∀ av, FitAs [.one (.list insSh), .agg csSh] av → ACalls Tryd.prog 9 av [] fun r _ => r = .bool true := by
  rintro _ ⟨a, _, rfl, h1, b, _, rfl, h2, rfl⟩
  obtain ⟨f, rfl, hf, _⟩ := h1.inss
  obtain ⟨c, rfl, hc, _⟩ := h2.cs
  exact (RunRuns_ok f c hc).law

set_option maxRecDepth 100000 in
theorem runRuns_lifted (os : Os) (started : os.Started) (H : Type) (enc : TypeId × Value → H) :
    ReturnsInHanded {} Tryd.checked os 9 .any (fun w args => (Rows.runRunsSpec.pre enc Tryd.prog Tryd.f9 [] false w args ∧ laidMetH Tryd.prog laidL w) ∧ sizedMet enc Tryd.prog Tryd.f9 (OpenSpec.ofChange Rows.runRunsSpec) false w args)
      (Rows.runRunsSpec.post enc Tryd.prog Tryd.f9 false true false false) := by
  refine returnsInHanded_of_change_and (C := Tryd.checked) (X := fun w _ => laidMetH Tryd.prog laidL w) (fun _ _ _ hh h => h.of_heap hh) own_ok started (by kernel_rfl) Tryd.func9
    (ChangeSpec.witness_shaped (enc := enc) (C := Tryd.checked) (os := os) (X := fun w _ => laidMetH Tryd.prog laidL w) false (World.doorLaid Tryd.prog 400 os) #[.slice none 0 0, (.agg #[.int .i64 0, .int .i64 0, .int .i64 0, .int .i64 0, .int .i64 0, .int .i64 0, .int .i64 0, .int .i64 0, .slice none 0 0, .slice none 0 0, .int .i64 0])] 8 rfl (World.shaped_of_RefB (by kernel_rfl) (by kernel_rfl)) (by kernel_rfl) (by kernel_rfl) (by kernel_rfl) (door_met os _)) ?_
  intro W base args ds gs before hval0 hW _ _ hL _
  exact law_contract (base := base) laid_ok rfl (by kernel_rfl) (by kernel_rfl) (by kernel_rfl)
    (fun ds hl => by
      match ds, hl with
      | [d1, d2], _ => rfl) (glob_of_laid hL) runRuns_law hval0 hW

set_option maxRecDepth 100000 in
theorem runRuns_row : Rows.RunRunsSaid :=
  OpenClaim.holds_of_wide 9 Tryd.f9 rfl rfl rfl rfl rfl rfl rfl ⟨rfl, rfl, rfl, rfl, rfl⟩ rfl rfl rfl rfl rfl (by kernel_rfl) Tryd.func9 (by kernel_rfl)
    (of_decide_eq_true (by kernel_rfl)) (by unfold Func.isWrapper; first | (rw [if_pos (by decide +kernel)]; kernel_rfl) | (rw [if_neg (by decide +kernel)]; exact ⟨rfl, rfl⟩))
    (fun os started H enc _ => runRuns_lifted os started H enc)

set_option maxRecDepth 100000 in
/-- **RunRuns.** -/
theorem runRuns_holds : Rows.RunRunsCardSaid :=
  Claim7.holds_tied_plain_at .later [] [.data] true (true, "bfd71dfb10269e8ba6e027be74d69a4e50b0edb49cced56766909c0e9f3902d6") false
    runRuns_row (fun _ h => by cases h) (by kernel_rfl) (fun _ h => by cases h) runRuns_row_tie rfl ⟨rfl, rfl⟩ (by kernel_rfl) rfl
    (fun f fn hf hfn => by
      obtain rfl : f = 9 := Option.some.inj ((show Tryd.prog.funcNamed "joinery/joinerylaw08.RunRuns" = some 9 by kernel_rfl).symm.trans hf) |>.symm
      obtain rfl : fn = Tryd.f9 := (Option.some.inj (Tryd.func9.symm.trans hfn)).symm
      exact ⟨by kernel_rfl, fun j t ht => by
        have hall : (Tryd.f9.params.toList.all fun u => !Tryd.prog.wantsStandIn u) = true := by kernel_rfl
        have hm : t ∈ Tryd.f9.params.toList := by
          have := Array.mem_of_getElem? ht
          simpa using this
        exact (show Tryd.prog.wantsStandIn t = false by simpa using List.all_eq_true.1 hall t hm)⟩)
    (by kernel_rfl)
end Go.Proofs.YtbkbehkjndmabaaDoor

