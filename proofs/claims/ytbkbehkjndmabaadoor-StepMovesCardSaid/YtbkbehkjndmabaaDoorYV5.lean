/-
  StepMoves, of every function, state and answers: a step that only moves makes no event, changes no heap, and never ends.
-/
import Derived.Test.YtbkbehkjndmabaaDoorZ10
namespace Go.Proofs.YtbkbehkjndmabaaDoor
open Go.ChangeShapes Go.WideShapes Go.ChangeAt Go.RowKit
set_option linter.unusedVariables false
set_option linter.unusedSimpArgs false
set_option maxHeartbeats 8000000 in
theorem StepMoves_ok (f : List Ins) (s : St) (ask : List Int) (hL : s.L.length = 24) (hask : ask.length ≤ maxLen) : Pure Tryd.prog 5 [encFn f, stA s, ints ask] (.bool true) := by
  intro H
  refine ACalls.go joinerylaw07_StepMoves.low (by simp) fun hcl => ?_
  have hwl : (wc s.L).length = 48 := by rw [wc_len, hL]
  have hgr := law07_great_ok f s ask hL
  have hAs := law07_As_ok s hL
  have hRR := ref07_Right_ok f s hL
  have hdo := step_Do_ok f s ask hL (by rw [maxLen_def] at hask; omega)
  unfold stepA at hdo
  by_cases hg : greatB f s ask = true
  · rw [hg] at hgr
    rw [stA_eq] at *
    unfold encFn ints at *
    replace hgr := Hold.mk hgr
    clear hAs hdo hRR
    repeat' (first | simp only [seval, evx, beq_self_eq_true, sb, ew, insA, ins_dec, ins_eta, evs_eq, encEv_def, List.map_nil, List.length_nil, beq_self_eq_true, *] | simp (disch := omega) only [if_pos, if_neg] | refine R.seq ?_ | refine LCB.text ?_ | refine LCB.quiet rfl ?_ | refine R.anyX ?_ | refine R.block ?_ | refine LCB.skip ?_ | refine LCB.exit ?_ | refine LCB.ret ?_ | ((first | refine RetOk.val hcl ?_ | refine Weak.at hcl ?_); simp only [seval, evw, List.forall_mem_cons, List.forall_mem_map, List.forall_mem_append, List.not_mem_nil, sb, ew, insA, ins_dec, ins_eta, evs_eq, encEv_def, List.map_nil, List.length_nil, beq_self_eq_true, *]) | ((first | refine LCB.cond (by simp only [seval, evx] <;> rfl) ?_ ?_ | refine wpG_split (by simp only [seval, evx] <;> rfl) ?_ ?_ | refine wxG_split (by simp only [seval, evx] <;> rfl) ?_ ?_) <;> (intro hc; try simp only [seval, nf] at hc)) | refine ACalls.inst ?_ | refine CallX.inst ?_ | (with_reducible refine And.intro ?_ ?_) | exact True.intro)
    first | refine ACalls.pure (hgr.of) ?_ | refine CallP.pure (hgr.of) rfl ?_ | refine CallX.pure (hgr.of) ?_
    repeat' (first | simp only [seval, evx, beq_self_eq_true, sb, ew, insA, ins_dec, ins_eta, evs_eq, encEv_def, List.map_nil, List.length_nil, beq_self_eq_true, *] | simp (disch := omega) only [if_pos, if_neg] | refine R.seq ?_ | refine LCB.text ?_ | refine LCB.quiet rfl ?_ | refine R.anyX ?_ | refine R.block ?_ | refine LCB.skip ?_ | refine LCB.exit ?_ | refine LCB.ret ?_ | ((first | refine RetOk.val hcl ?_ | refine Weak.at hcl ?_); simp only [seval, evw, List.forall_mem_cons, List.forall_mem_map, List.forall_mem_append, List.not_mem_nil, sb, ew, insA, ins_dec, ins_eta, evs_eq, encEv_def, List.map_nil, List.length_nil, beq_self_eq_true, *]) | ((first | refine LCB.cond (by simp only [seval, evx] <;> rfl) ?_ ?_ | refine wpG_split (by simp only [seval, evx] <;> rfl) ?_ ?_ | refine wxG_split (by simp only [seval, evx] <;> rfl) ?_ ?_) <;> (intro hc; try simp only [seval, nf] at hc)) | refine ACalls.inst ?_ | refine CallX.inst ?_ | (with_reducible refine And.intro ?_ ?_) | exact True.intro)
  obtain ⟨q1, q2, q3⟩ := great_not hg
  have hg2 : greatB f s ask = false := by simpa using hg
  rw [hg2] at hgr
  clear hg hg2
  by_cases hr : stRight f s = true
  · rw [if_pos hr] at hdo
    rw [hr] at hRR
    obtain ⟨r1, r2, r3, _⟩ := stRight_iff.1 hr
    have p1 := stepF_moves (f := f) (s := s) (ask := ask)
    have hl1 := stepF_len f s ask
    generalize stepF f s ask = r at *
    obtain ⟨s', ev, o⟩ := r
    simp only at hdo p1 hl1
    have hwl' : (wc s'.L).length = 48 := by rw [wc_len, hl1, hL]
    have hS := ref06_Same_ok s.heap s.heap (by omega)
    rw [decide_eq_true rfl] at hS
    obtain ⟨L, heap, pc, asked⟩ := s
    simp only at r2 r3
    obtain ⟨n, rfl⟩ := Int.eq_ofNat_of_zero_le r2
    have hn : n < f.length := by omega
    have hg := getD_encIns hn
    have e1 : (n : Int) < (f.length : Int) := by omega
    simp only [Int.toNat_natCast] at p1
    generalize f.getD n noIns = x at *
    cases hm : movesB x.op
    · simp only [stA_eq, rsA_eq, outA_eq, evs_eq] at *
      unfold encFn ints at *
      replace hgr := Hold.mk hgr
      replace hRR := Hold.mk hRR
      replace hAs := Hold.mk hAs
      replace hdo := Hold.mk hdo
      replace hS := Hold.mk hS
      clear p1 hl1 hr q1 q2 q3 hL hask r1 r2 r3
      have he : encIns x = [.int .i64 x.op, .int .i64 x.d, .int .i64 x.a, .int .i64 x.b, .int .i64 x.n, .int .i64 x.to] := rfl
      rw [he] at hg
      replace he := Hold.mk he
      repeat' (first | simp only [seval, evx, beq_self_eq_true, sb, ew, insA, ins_dec, ins_eta, evs_eq, encEv_def, List.map_nil, List.length_nil, beq_self_eq_true, *] | simp (disch := omega) only [if_pos, if_neg] | refine R.seq ?_ | refine LCB.text ?_ | refine LCB.quiet rfl ?_ | refine R.anyX ?_ | refine R.block ?_ | refine LCB.skip ?_ | refine LCB.exit ?_ | refine LCB.ret ?_ | ((first | refine RetOk.val hcl ?_ | refine Weak.at hcl ?_); simp only [seval, evw, List.forall_mem_cons, List.forall_mem_map, List.forall_mem_append, List.not_mem_nil, sb, ew, insA, ins_dec, ins_eta, evs_eq, encEv_def, List.map_nil, List.length_nil, beq_self_eq_true, *]) | ((first | refine LCB.cond (by simp only [seval, evx] <;> rfl) ?_ ?_ | refine wpG_split (by simp only [seval, evx] <;> rfl) ?_ ?_ | refine wxG_split (by simp only [seval, evx] <;> rfl) ?_ ?_) <;> (intro hc; try simp only [seval, nf] at hc)) | refine ACalls.inst ?_ | refine CallX.inst ?_ | (with_reducible refine And.intro ?_ ?_) | exact True.intro | refine ACalls.pure hgr.of ?_ | refine CallX.pure hgr.of ?_ | refine ACalls.pure hdo.of ?_ | refine CallX.pure hdo.of ?_ | refine ACalls.pure hAs.of ?_ | refine CallX.pure hAs.of ?_ | refine ACalls.pure hRR.of ?_ | refine CallX.pure hRR.of ?_ | refine ACalls.pure hS.of ?_ | refine CallX.pure hS.of ?_)
    · obtain ⟨k1, k2, k3, k4⟩ := p1 hm
      obtain ⟨how, value, oh⟩ := o
      obtain ⟨L', heap', pc', asked'⟩ := s'
      simp only at k1 k2 k3 k4 hwl'
      subst k1 k2 k3 k4
      simp only [stA_eq, rsA_eq, outA_eq, evs_eq] at *
      unfold encFn ints at *
      replace hgr := Hold.mk hgr
      replace hRR := Hold.mk hRR
      replace hAs := Hold.mk hAs
      replace hdo := Hold.mk hdo
      replace hS := Hold.mk hS
      clear p1 hl1 hr q1 q2 q3 hL hask r1 r2 r3
      have he : encIns x = [.int .i64 x.op, .int .i64 x.d, .int .i64 x.a, .int .i64 x.b, .int .i64 x.n, .int .i64 x.to] := rfl
      rw [he] at hg
      replace he := Hold.mk he
      repeat' (first | simp only [seval, evx, beq_self_eq_true, sb, ew, insA, ins_dec, ins_eta, evs_eq, encEv_def, List.map_nil, List.length_nil, beq_self_eq_true, *] | simp (disch := omega) only [if_pos, if_neg] | refine R.seq ?_ | refine LCB.text ?_ | refine LCB.quiet rfl ?_ | refine R.anyX ?_ | refine R.block ?_ | refine LCB.skip ?_ | refine LCB.exit ?_ | refine LCB.ret ?_ | ((first | refine RetOk.val hcl ?_ | refine Weak.at hcl ?_); simp only [seval, evw, List.forall_mem_cons, List.forall_mem_map, List.forall_mem_append, List.not_mem_nil, sb, ew, insA, ins_dec, ins_eta, evs_eq, encEv_def, List.map_nil, List.length_nil, beq_self_eq_true, *]) | ((first | refine LCB.cond (by simp only [seval, evx] <;> rfl) ?_ ?_ | refine wpG_split (by simp only [seval, evx] <;> rfl) ?_ ?_ | refine wxG_split (by simp only [seval, evx] <;> rfl) ?_ ?_) <;> (intro hc; try simp only [seval, nf] at hc)) | refine ACalls.inst ?_ | refine CallX.inst ?_ | (with_reducible refine And.intro ?_ ?_) | exact True.intro | refine ACalls.pure hgr.of ?_ | refine CallX.pure hgr.of ?_ | refine ACalls.pure hdo.of ?_ | refine CallX.pure hdo.of ?_ | refine ACalls.pure hAs.of ?_ | refine CallX.pure hAs.of ?_ | refine ACalls.pure hRR.of ?_ | refine CallX.pure hRR.of ?_ | refine ACalls.pure hS.of ?_ | refine CallX.pure hS.of ?_)
  · have hr2 : stRight f s = false := by simpa using hr
    rw [hr2] at hRR
    have hS := Hold.mk hRR
    simp only [stA_eq, rsA_eq] at *
    unfold encFn ints at *
    replace hgr := Hold.mk hgr
    replace hRR := Hold.mk hRR
    replace hAs := Hold.mk hAs
    replace hdo := Hold.mk hdo
    clear hr hr2 q1 q2 q3 hL hask
    repeat' (first | simp only [seval, evx, beq_self_eq_true, sb, ew, insA, ins_dec, ins_eta, evs_eq, encEv_def, List.map_nil, List.length_nil, beq_self_eq_true, *] | simp (disch := omega) only [if_pos, if_neg] | refine R.seq ?_ | refine LCB.text ?_ | refine LCB.quiet rfl ?_ | refine R.anyX ?_ | refine R.block ?_ | refine LCB.skip ?_ | refine LCB.exit ?_ | refine LCB.ret ?_ | ((first | refine RetOk.val hcl ?_ | refine Weak.at hcl ?_); simp only [seval, evw, List.forall_mem_cons, List.forall_mem_map, List.forall_mem_append, List.not_mem_nil, sb, ew, insA, ins_dec, ins_eta, evs_eq, encEv_def, List.map_nil, List.length_nil, beq_self_eq_true, *]) | ((first | refine LCB.cond (by simp only [seval, evx] <;> rfl) ?_ ?_ | refine wpG_split (by simp only [seval, evx] <;> rfl) ?_ ?_ | refine wxG_split (by simp only [seval, evx] <;> rfl) ?_ ?_) <;> (intro hc; try simp only [seval, nf] at hc)) | refine ACalls.inst ?_ | refine CallX.inst ?_ | (with_reducible refine And.intro ?_ ?_) | exact True.intro | refine ACalls.pure hgr.of ?_ | refine CallX.pure hgr.of ?_ | refine ACalls.pure hdo.of ?_ | refine CallX.pure hdo.of ?_ | refine ACalls.pure hAs.of ?_ | refine CallX.pure hAs.of ?_ | refine ACalls.pure hRR.of ?_ | refine CallX.pure hRR.of ?_ | refine ACalls.pure hS.of ?_ | refine CallX.pure hS.of ?_)

theorem stepMoves_law : ∀ av, FitAs [.one (.list insSh), .agg stSh, .one (.list [.int .i64])] av → ACalls Tryd.prog 5 av [] fun r _ => r = .bool true := by
  rintro _ ⟨a, _, rfl, h1, b, _, rfl, h2, c, _, rfl, h3, rfl⟩
  obtain ⟨f, rfl, hf, _⟩ := h1.inss
  obtain ⟨s, rfl, hs, _⟩ := h2.st
  obtain ⟨l, rfl, _, hl⟩ := h3.ints
  exact (StepMoves_ok f s l hs hl).law

set_option maxRecDepth 100000 in
theorem stepMoves_lifted (os : Os) (started : os.Started) (H : Type) (enc : TypeId × Value → H) :
    ReturnsInHanded {} Tryd.checked os 5 .any (fun w args => (Rows.stepMovesSpec.pre enc Tryd.prog Tryd.f5 [] false w args ∧ laidMetH Tryd.prog laidL w) ∧ sizedMet enc Tryd.prog Tryd.f5 (OpenSpec.ofChange Rows.stepMovesSpec) false w args)
      (Rows.stepMovesSpec.post enc Tryd.prog Tryd.f5 false true false false) := by
  refine returnsInHanded_of_change_and (C := Tryd.checked) (X := fun w _ => laidMetH Tryd.prog laidL w) (fun _ _ _ hh h => h.of_heap hh) own_ok started (by kernel_rfl) Tryd.func5
    (ChangeSpec.witness_shaped (enc := enc) (C := Tryd.checked) (os := os) (X := fun w _ => laidMetH Tryd.prog laidL w) false (World.doorLaid Tryd.prog 400 os) #[.slice none 0 0, (.agg #[.bool false, .int .i64 0, .bool false, .int .i64 0, .bool false, .int .i64 0, .bool false, .int .i64 0, .bool false, .int .i64 0, .bool false, .int .i64 0, .bool false, .int .i64 0, .bool false, .int .i64 0, .bool false, .int .i64 0, .bool false, .int .i64 0, .bool false, .int .i64 0, .bool false, .int .i64 0, .bool false, .int .i64 0, .bool false, .int .i64 0, .bool false, .int .i64 0, .bool false, .int .i64 0, .bool false, .int .i64 0, .bool false, .int .i64 0, .bool false, .int .i64 0, .bool false, .int .i64 0, .bool false, .int .i64 0, .bool false, .int .i64 0, .bool false, .int .i64 0, .bool false, .int .i64 0, .slice none 0 0, .int .i64 0, .int .i64 0]), .slice none 0 0] 8 rfl (World.shaped_of_RefB (by kernel_rfl) (by kernel_rfl)) (by kernel_rfl) (by kernel_rfl) (by kernel_rfl) (door_met os _)) ?_
  intro W base args ds gs before hval0 hW _ _ hL _
  exact law_contract (base := base) laid_ok rfl (by kernel_rfl) (by kernel_rfl) (by kernel_rfl)
    (fun ds hl => by
      match ds, hl with
      | [d1, d2, d3], _ => rfl) (glob_of_laid hL) stepMoves_law hval0 hW

set_option maxRecDepth 100000 in
theorem stepMoves_row : Rows.StepMovesSaid :=
  OpenClaim.holds_of_wide 5 Tryd.f5 rfl rfl rfl rfl rfl rfl rfl ⟨rfl, rfl, rfl, rfl, rfl⟩ rfl rfl rfl rfl rfl (by kernel_rfl) Tryd.func5 (by kernel_rfl)
    (of_decide_eq_true (by kernel_rfl)) (by unfold Func.isWrapper; first | (rw [if_pos (by decide +kernel)]; kernel_rfl) | (rw [if_neg (by decide +kernel)]; exact ⟨rfl, rfl⟩))
    (fun os started H enc _ => stepMoves_lifted os started H enc)

set_option maxRecDepth 100000 in
/-- **StepMoves.** -/
theorem stepMoves_holds : Rows.StepMovesCardSaid :=
  Claim7.holds_tied_plain_at .later [] [.data] true (true, "bfd71dfb10269e8ba6e027be74d69a4e50b0edb49cced56766909c0e9f3902d6") false
    stepMoves_row (fun _ h => by cases h) (by kernel_rfl) (fun _ h => by cases h) stepMoves_row_tie rfl ⟨rfl, rfl⟩ (by kernel_rfl) rfl
    (fun f fn hf hfn => by
      obtain rfl : f = 5 := Option.some.inj ((show Tryd.prog.funcNamed "joinery/joinerylaw07.StepMoves" = some 5 by kernel_rfl).symm.trans hf) |>.symm
      obtain rfl : fn = Tryd.f5 := (Option.some.inj (Tryd.func5.symm.trans hfn)).symm
      exact ⟨by kernel_rfl, fun j t ht => by
        have hall : (Tryd.f5.params.toList.all fun u => !Tryd.prog.wantsStandIn u) = true := by kernel_rfl
        have hm : t ∈ Tryd.f5.params.toList := by
          have := Array.mem_of_getElem? ht
          simpa using this
        exact (show Tryd.prog.wantsStandIn t = false by simpa using List.all_eq_true.1 hall t hm)⟩)
    (by kernel_rfl)
end Go.Proofs.YtbkbehkjndmabaaDoor
