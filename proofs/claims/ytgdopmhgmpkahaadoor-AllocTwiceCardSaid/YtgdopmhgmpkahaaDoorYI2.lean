/-
  AllocTwice, of every function and two places: to rename two slots twice is nothing; and in both orders it is the same.
-/
import Derived.Test.YtgdopmhgmpkahaaDoorZ7
namespace Go.Proofs.YtgdopmhgmpkahaaDoor
open Go.ChangeShapes Go.WideShapes Go.ChangeAt Go.RowKit
set_option linter.unusedVariables false
set_option linter.unusedSimpArgs false
set_option maxHeartbeats 4000000 in
theorem AllocTwice_ok (f : List Ins) (a b : Int) : Pure Tryd.prog 6 [encFn f, .int .i64 a, .int .i64 b] (.bool true) := by
  intro H
  refine ACalls.go joinerylaw23_AllocTwice.low (by simp) fun hcl => ?_
  by_cases hf : (300 : Int) < (f.length : Int)
  · unfold encFn
    repeat' (first | simp only [seval, evx, beq_self_eq_true, encB_def, encN_def, sb, insA, ins_dec, ins_eta, *] | simp (disch := omega) only [if_pos, if_neg] | refine R.seq ?_ | refine LCB.text ?_ | refine LCB.quiet rfl ?_ | refine R.anyX ?_ | refine R.block ?_ | refine LCB.skip ?_ | refine LCB.exit ?_ | refine LCB.ret ?_ | ((first | refine RetOk.val hcl ?_ | refine Weak.at hcl ?_); simp only [seval, evw, List.forall_mem_cons, List.forall_mem_map, List.forall_mem_append, List.not_mem_nil, encB_def, encN_def, sb, insA, ins_dec, ins_eta, *]) | ((first | refine LCB.cond (by simp only [seval, evx] <;> rfl) ?_ ?_ | refine wpG_split (by simp only [seval, evx] <;> rfl) ?_ ?_ | refine wxG_split (by simp only [seval, evx] <;> rfl) ?_ ?_) <;> (intro hc; try simp only [seval, nf] at hc)) | refine ACalls.inst ?_ | refine CallX.inst ?_ | (with_reducible refine And.intro ?_ ?_) | exact True.intro)
  have h1 := alloc_Rename_ok f a b (by omega)
  have h2 := alloc_Rename_ok f b a (by omega)
  rw [← renF_comm] at h2
  by_cases hr : renOk f a b = true
  · have hg := ren_ok hr
    have e1 : renF f a b = (f.map (renI a b), 0) := by unfold renF; rw [if_pos hr]
    have e2 : renF (f.map (renI a b)) a b = (f, 0) := by unfold renF; rw [if_pos hg, map_renI_twice]
    have h3 := alloc_Rename_ok (f.map (renI a b)) a b (by rw [List.length_map]; omega)
    have h4 := ref04_Same_ok (f.map (renI a b)) (f.map (renI a b)) (by rw [List.length_map]; omega)
    have h5 := ref04_Same_ok f f (by omega)
    rw [decide_eq_true rfl] at h4 h5
    rw [e1] at h1 h2
    rw [e2] at h3
    rw [resP_eq] at h1 h2 h3
    simp only at h1 h2 h3
    clear hg e1 e2 hr
    generalize f.map (renI a b) = g at *
    unfold encFn at *
    replace h1 := Hold.mk h1
    replace h2 := Hold.mk h2
    replace h3 := Hold.mk h3
    replace h4 := Hold.mk h4
    replace h5 := Hold.mk h5
    repeat' (first | simp only [seval, evx, beq_self_eq_true, encB_def, encN_def, sb, insA, ins_dec, ins_eta, *] | simp (disch := omega) only [if_pos, if_neg] | refine R.seq ?_ | refine LCB.text ?_ | refine LCB.quiet rfl ?_ | refine R.anyX ?_ | refine R.block ?_ | refine LCB.skip ?_ | refine LCB.exit ?_ | refine LCB.ret ?_ | ((first | refine RetOk.val hcl ?_ | refine Weak.at hcl ?_); simp only [seval, evw, List.forall_mem_cons, List.forall_mem_map, List.forall_mem_append, List.not_mem_nil, encB_def, encN_def, sb, insA, ins_dec, ins_eta, *]) | ((first | refine LCB.cond (by simp only [seval, evx] <;> rfl) ?_ ?_ | refine wpG_split (by simp only [seval, evx] <;> rfl) ?_ ?_ | refine wxG_split (by simp only [seval, evx] <;> rfl) ?_ ?_) <;> (intro hc; try simp only [seval, nf] at hc)) | refine ACalls.inst ?_ | refine CallX.inst ?_ | (with_reducible refine And.intro ?_ ?_) | exact True.intro | refine CallX.pure h1.of ?_ | refine ACalls.pure h1.of ?_ | refine ACalls.pure h2.of ?_ | refine ACalls.pure h3.of ?_ | refine ACalls.pure h4.of ?_ | refine ACalls.pure h5.of ?_)
  · have e1 : renF f a b = ([], 1) := by unfold renF; rw [if_neg hr]
    have h4 := ref04_Same_ok [] [] (by simp)
    rw [decide_eq_true rfl] at h4
    rw [e1] at h1 h2
    rw [resP_eq] at h1 h2
    simp only [List.map_nil] at h1 h2
    unfold encFn at *
    rw [List.map_nil] at h4
    clear e1 hr
    replace h1 := Hold.mk h1
    replace h2 := Hold.mk h2
    replace h4 := Hold.mk h4
    repeat' (first | simp only [seval, evx, beq_self_eq_true, encB_def, encN_def, sb, insA, ins_dec, ins_eta, *] | simp (disch := omega) only [if_pos, if_neg] | refine R.seq ?_ | refine LCB.text ?_ | refine LCB.quiet rfl ?_ | refine R.anyX ?_ | refine R.block ?_ | refine LCB.skip ?_ | refine LCB.exit ?_ | refine LCB.ret ?_ | ((first | refine RetOk.val hcl ?_ | refine Weak.at hcl ?_); simp only [seval, evw, List.forall_mem_cons, List.forall_mem_map, List.forall_mem_append, List.not_mem_nil, encB_def, encN_def, sb, insA, ins_dec, ins_eta, *]) | ((first | refine LCB.cond (by simp only [seval, evx] <;> rfl) ?_ ?_ | refine wpG_split (by simp only [seval, evx] <;> rfl) ?_ ?_ | refine wxG_split (by simp only [seval, evx] <;> rfl) ?_ ?_) <;> (intro hc; try simp only [seval, nf] at hc)) | refine ACalls.inst ?_ | refine CallX.inst ?_ | (with_reducible refine And.intro ?_ ?_) | exact True.intro | refine CallX.pure h1.of ?_ | refine ACalls.pure h1.of ?_ | refine ACalls.pure h2.of ?_ | refine ACalls.pure h3.of ?_ | refine ACalls.pure h4.of ?_ | refine ACalls.pure h5.of ?_)

theorem allocTwice_law : ∀ av, FitAs [.one (.list insSh), .one (.int .i64), .one (.int .i64)] av → ACalls Tryd.prog 6 av [] fun r _ => r = .bool true := by
  rintro _ ⟨a, _, rfl, h1, b, _, rfl, h2, c, _, rfl, h3, rfl⟩
  obtain ⟨f, rfl, hf, _⟩ := h1.inss
  obtain ⟨p, rfl, _⟩ := h2.i64
  obtain ⟨q, rfl, _⟩ := h3.i64
  exact (AllocTwice_ok f p q).law

set_option maxRecDepth 100000 in
theorem allocTwice_lifted (os : Os) (started : os.Started) (H : Type) (enc : TypeId × Value → H) :
    ReturnsInHanded {} Tryd.checked os 6 .any (fun w args => (Rows.allocTwiceSpec.pre enc Tryd.prog Tryd.f6 [] false w args ∧ laidMetH Tryd.prog laidL w) ∧ sizedMet enc Tryd.prog Tryd.f6 (OpenSpec.ofChange Rows.allocTwiceSpec) false w args)
      (Rows.allocTwiceSpec.post enc Tryd.prog Tryd.f6 false true false false) := by
  refine returnsInHanded_of_change_and (C := Tryd.checked) (X := fun w _ => laidMetH Tryd.prog laidL w) (fun _ _ _ hh h => h.of_heap hh) own_ok started (by kernel_rfl) Tryd.func6
    (ChangeSpec.witness_shaped (enc := enc) (C := Tryd.checked) (os := os) (X := fun w _ => laidMetH Tryd.prog laidL w) false (World.doorLaid Tryd.prog 400 os) #[.slice none 0 0, .int .i64 0, .int .i64 0] 8 rfl (World.shaped_of_RefB (by kernel_rfl) (by kernel_rfl)) (by kernel_rfl) (by kernel_rfl) (by kernel_rfl) (door_met os _)) ?_
  intro W base args ds gs before hval0 hW _ _ hL _
  exact law_contract (base := base) laid_ok rfl (by kernel_rfl) (by kernel_rfl) (by kernel_rfl)
    (fun ds hl => by
      match ds, hl with
      | [d1, d2, d3], _ => rfl) (glob_of_laid hL) allocTwice_law hval0 hW

set_option maxRecDepth 100000 in
theorem allocTwice_row : Rows.AllocTwiceSaid :=
  OpenClaim.holds_of_wide 6 Tryd.f6 rfl rfl rfl rfl rfl rfl rfl ⟨rfl, rfl, rfl, rfl, rfl⟩ rfl rfl rfl rfl rfl (by kernel_rfl) Tryd.func6 (by kernel_rfl)
    (of_decide_eq_true (by kernel_rfl)) (by unfold Func.isWrapper; first | (rw [if_pos (by decide +kernel)]; kernel_rfl) | (rw [if_neg (by decide +kernel)]; exact ⟨rfl, rfl⟩))
    (fun os started H enc _ => allocTwice_lifted os started H enc)

set_option maxRecDepth 100000 in
/-- **AllocTwice.** -/
theorem allocTwice_holds : Rows.AllocTwiceCardSaid :=
  Claim7.holds_tied_plain_at .later [] [.data] true (true, "32cd7f34be1f3b1009565b02ab8f35c95574080d302c1bea14865de20bc3ab13") true
    allocTwice_row (fun _ h => by cases h) (by kernel_rfl) (fun _ h => by cases h) allocTwice_row_tie rfl ⟨rfl, rfl⟩ (by kernel_rfl) rfl
    (fun f fn hf hfn => by
      obtain rfl : f = 6 := Option.some.inj ((show Tryd.prog.funcNamed "joinery/joinerylaw23.AllocTwice" = some 6 by kernel_rfl).symm.trans hf) |>.symm
      obtain rfl : fn = Tryd.f6 := (Option.some.inj (Tryd.func6.symm.trans hfn)).symm
      exact ⟨by kernel_rfl, fun j t ht => by
        have hall : (Tryd.f6.params.toList.all fun u => !Tryd.prog.wantsStandIn u) = true := by kernel_rfl
        have hm : t ∈ Tryd.f6.params.toList := by
          have := Array.mem_of_getElem? ht
          simpa using this
        exact (show Tryd.prog.wantsStandIn t = false by simpa using List.all_eq_true.1 hall t hm)⟩)
    (by kernel_rfl)
end Go.Proofs.YtgdopmhgmpkahaaDoor

