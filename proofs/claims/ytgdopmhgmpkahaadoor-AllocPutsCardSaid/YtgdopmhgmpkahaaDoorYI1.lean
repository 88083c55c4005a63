/-
  AllocPuts, of every function, place and list of instructions: they are put in as the document says, or the error is told.
-/
import Derived.Test.YtgdopmhgmpkahaaDoorZ7
namespace Go.Proofs.YtgdopmhgmpkahaaDoor
open Go.ChangeShapes Go.WideShapes Go.ChangeAt Go.RowKit
set_option linter.unusedVariables false
set_option linter.unusedSimpArgs false
theorem putF_ok {f l : List Ins} {p : Int} (h : (putF f p l).2 = 0) : fnOk (putF f p l).1 = true ∧ mayB f p = true ∧ (putF f p l).1 = putL f p.toNat l := by
  cases hm : mayB f p
  · unfold putF at h; rw [hm] at h; simp at h
  · cases hb : l.any (badIn (f.length : Int))
    · have e := putF_good hm hb
      rw [e] at h ⊢
      unfold put2 at h ⊢
      split at h
      · simp at h
      · rename_i hl
        rw [if_neg hl]
        exact ⟨put_ok hm hb hl, rfl, rfl⟩
    · unfold putF at h; rw [hm, hb] at h; simp at h
theorem putF_len {f l : List Ins} {p : Int} : (putF f p l).1.length ≤ 200 ∧ ((putF f p l).2 ≠ 0 → (putF f p l).1 = []) := by
  by_cases h : (putF f p l).2 = 0
  · obtain ⟨h1, _, _⟩ := putF_ok h
    exact ⟨(fnOk_iff.1 h1).1, fun h2 => absurd h h2⟩
  · have : (putF f p l).1 = [] := by
      revert h
      unfold putF put2
      split
      · split
        · intro _; rfl
        · split
          · intro _; rfl
          · intro h; exact absurd rfl h
      · intro _; rfl
    rw [this]
    exact ⟨by simp, fun _ => rfl⟩
set_option maxHeartbeats 4000000 in
theorem AllocPuts_ok (f : List Ins) (p : Int) (l : List Ins) : Pure Tryd.prog 4 [encFn f, .int .i64 p, encFn l] (.bool true) := by
  intro H
  refine ACalls.go joinerylaw23_AllocPuts.low (by simp) fun hcl => ?_
  unfold encFn
  by_cases hf : (300 : Int) < (f.length : Int)
  · repeat' (first | simp only [seval, evx, beq_self_eq_true, encB_def, encN_def, sb, insA, ins_dec, ins_eta, *] | simp (disch := omega) only [if_pos, if_neg] | refine R.seq ?_ | refine LCB.text ?_ | refine LCB.quiet rfl ?_ | refine R.anyX ?_ | refine R.block ?_ | refine LCB.skip ?_ | refine LCB.exit ?_ | refine LCB.ret ?_ | ((first | refine RetOk.val hcl ?_ | refine Weak.at hcl ?_); simp only [seval, evw, List.forall_mem_cons, List.forall_mem_map, List.forall_mem_append, List.not_mem_nil, encB_def, encN_def, sb, insA, ins_dec, ins_eta, *]) | ((first | refine LCB.cond (by simp only [seval, evx] <;> rfl) ?_ ?_ | refine wpG_split (by simp only [seval, evx] <;> rfl) ?_ ?_ | refine wxG_split (by simp only [seval, evx] <;> rfl) ?_ ?_) <;> (intro hc; try simp only [seval, nf] at hc)) | refine ACalls.inst ?_ | refine CallX.inst ?_ | (with_reducible refine And.intro ?_ ?_) | exact True.intro)
  by_cases hl : (300 : Int) < (l.length : Int)
  · repeat' (first | simp only [seval, evx, beq_self_eq_true, encB_def, encN_def, sb, insA, ins_dec, ins_eta, *] | simp (disch := omega) only [if_pos, if_neg] | refine R.seq ?_ | refine LCB.text ?_ | refine LCB.quiet rfl ?_ | refine R.anyX ?_ | refine R.block ?_ | refine LCB.skip ?_ | refine LCB.exit ?_ | refine LCB.ret ?_ | ((first | refine RetOk.val hcl ?_ | refine Weak.at hcl ?_); simp only [seval, evw, List.forall_mem_cons, List.forall_mem_map, List.forall_mem_append, List.not_mem_nil, encB_def, encN_def, sb, insA, ins_dec, ins_eta, *]) | ((first | refine LCB.cond (by simp only [seval, evx] <;> rfl) ?_ ?_ | refine wpG_split (by simp only [seval, evx] <;> rfl) ?_ ?_ | refine wxG_split (by simp only [seval, evx] <;> rfl) ?_ ?_) <;> (intro hc; try simp only [seval, nf] at hc)) | refine ACalls.inst ?_ | refine CallX.inst ?_ | (with_reducible refine And.intro ?_ ?_) | exact True.intro)
  have h1 := alloc_Put_ok f p l (by omega)
  have h2 := ref23_Put_ok f p l (by omega)
  obtain ⟨k1, k2⟩ := putF_len (f := f) (l := l) (p := p)
  have k3 := putF_ok (f := f) (l := l) (p := p)
  generalize putF f p l = r at *
  obtain ⟨g, e⟩ := r
  have h3 := ref04_Same_ok g g (by simp only at k1; omega)
  rw [decide_eq_true rfl] at h3
  rw [resP_eq] at h1 h2
  simp only at h1 h2 k1 k2 k3
  have h4 := asm_Right_ok g
  unfold encFn at *
  by_cases he : e = 0
  · rw [(k3 he).1] at h4
    clear k3 k2 k1
    replace h1 := Hold.mk h1
    replace h2 := Hold.mk h2
    replace h3 := Hold.mk h3
    replace h4 := Hold.mk h4
    repeat' (first | simp only [seval, evx, beq_self_eq_true, encB_def, encN_def, sb, insA, ins_dec, ins_eta, *] | simp (disch := omega) only [if_pos, if_neg] | refine R.seq ?_ | refine LCB.text ?_ | refine LCB.quiet rfl ?_ | refine R.anyX ?_ | refine R.block ?_ | refine LCB.skip ?_ | refine LCB.exit ?_ | refine LCB.ret ?_ | ((first | refine RetOk.val hcl ?_ | refine Weak.at hcl ?_); simp only [seval, evw, List.forall_mem_cons, List.forall_mem_map, List.forall_mem_append, List.not_mem_nil, encB_def, encN_def, sb, insA, ins_dec, ins_eta, *]) | ((first | refine LCB.cond (by simp only [seval, evx] <;> rfl) ?_ ?_ | refine wpG_split (by simp only [seval, evx] <;> rfl) ?_ ?_ | refine wxG_split (by simp only [seval, evx] <;> rfl) ?_ ?_) <;> (intro hc; try simp only [seval, nf] at hc)) | refine ACalls.inst ?_ | refine CallX.inst ?_ | (with_reducible refine And.intro ?_ ?_) | exact True.intro | refine CallX.pure h1.of ?_ | refine ACalls.pure h1.of ?_ | refine ACalls.pure h2.of ?_ | refine ACalls.pure h3.of ?_ | refine ACalls.pure h4.of ?_)
  · clear k3 k2 k1 h4
    replace h1 := Hold.mk h1
    replace h2 := Hold.mk h2
    replace h3 := Hold.mk h3
    repeat' (first | simp only [seval, evx, beq_self_eq_true, encB_def, encN_def, sb, insA, ins_dec, ins_eta, *] | simp (disch := omega) only [if_pos, if_neg] | refine R.seq ?_ | refine LCB.text ?_ | refine LCB.quiet rfl ?_ | refine R.anyX ?_ | refine R.block ?_ | refine LCB.skip ?_ | refine LCB.exit ?_ | refine LCB.ret ?_ | ((first | refine RetOk.val hcl ?_ | refine Weak.at hcl ?_); simp only [seval, evw, List.forall_mem_cons, List.forall_mem_map, List.forall_mem_append, List.not_mem_nil, encB_def, encN_def, sb, insA, ins_dec, ins_eta, *]) | ((first | refine LCB.cond (by simp only [seval, evx] <;> rfl) ?_ ?_ | refine wpG_split (by simp only [seval, evx] <;> rfl) ?_ ?_ | refine wxG_split (by simp only [seval, evx] <;> rfl) ?_ ?_) <;> (intro hc; try simp only [seval, nf] at hc)) | refine ACalls.inst ?_ | refine CallX.inst ?_ | (with_reducible refine And.intro ?_ ?_) | exact True.intro | refine CallX.pure h1.of ?_ | refine ACalls.pure h1.of ?_ | refine ACalls.pure h2.of ?_ | refine ACalls.pure h3.of ?_ | refine ACalls.pure h4.of ?_)

theorem allocPuts_law : ∀ av, FitAs [.one (.list insSh), .one (.int .i64), .one (.list insSh)] av → ACalls Tryd.prog 4 av [] fun r _ => r = .bool true := by
  rintro _ ⟨a, _, rfl, h1, b, _, rfl, h2, c, _, rfl, h3, rfl⟩
  obtain ⟨f, rfl, hf, _⟩ := h1.inss
  obtain ⟨p, rfl, _⟩ := h2.i64
  obtain ⟨l, rfl, hl, _⟩ := h3.inss
  exact (AllocPuts_ok f p l).law

set_option maxRecDepth 100000 in
theorem allocPuts_lifted (os : Os) (started : os.Started) (H : Type) (enc : TypeId × Value → H) :
    ReturnsInHanded {} Tryd.checked os 4 .any (fun w args => (Rows.allocPutsSpec.pre enc Tryd.prog Tryd.f4 [] false w args ∧ laidMetH Tryd.prog laidL w) ∧ sizedMet enc Tryd.prog Tryd.f4 (OpenSpec.ofChange Rows.allocPutsSpec) false w args)
      (Rows.allocPutsSpec.post enc Tryd.prog Tryd.f4 false true false false) := by
  refine returnsInHanded_of_change_and (C := Tryd.checked) (X := fun w _ => laidMetH Tryd.prog laidL w) (fun _ _ _ hh h => h.of_heap hh) own_ok started (by kernel_rfl) Tryd.func4
    (ChangeSpec.witness_shaped (enc := enc) (C := Tryd.checked) (os := os) (X := fun w _ => laidMetH Tryd.prog laidL w) false (World.doorLaid Tryd.prog 400 os) #[.slice none 0 0, .int .i64 0, .slice none 0 0] 8 rfl (World.shaped_of_RefB (by kernel_rfl) (by kernel_rfl)) (by kernel_rfl) (by kernel_rfl) (by kernel_rfl) (door_met os _)) ?_
  intro W base args ds gs before hval0 hW _ _ hL _
  exact law_contract (base := base) laid_ok rfl (by kernel_rfl) (by kernel_rfl) (by kernel_rfl)
    (fun ds hl => by
      match ds, hl with
      | [d1, d2, d3], _ => rfl) (glob_of_laid hL) allocPuts_law hval0 hW

set_option maxRecDepth 100000 in
theorem allocPuts_row : Rows.AllocPutsSaid :=
  OpenClaim.holds_of_wide 4 Tryd.f4 rfl rfl rfl rfl rfl rfl rfl ⟨rfl, rfl, rfl, rfl, rfl⟩ rfl rfl rfl rfl rfl (by kernel_rfl) Tryd.func4 (by kernel_rfl)
    (of_decide_eq_true (by kernel_rfl)) (by unfold Func.isWrapper; first | (rw [if_pos (by decide +kernel)]; kernel_rfl) | (rw [if_neg (by decide +kernel)]; exact ⟨rfl, rfl⟩))
    (fun os started H enc _ => allocPuts_lifted os started H enc)

set_option maxRecDepth 100000 in
/-- **AllocPuts.** -/
theorem allocPuts_holds : Rows.AllocPutsCardSaid :=
  Claim7.holds_tied_plain_at .later [] [.data] true (true, "32cd7f34be1f3b1009565b02ab8f35c95574080d302c1bea14865de20bc3ab13") true
    allocPuts_row (fun _ h => by cases h) (by kernel_rfl) (fun _ h => by cases h) allocPuts_row_tie rfl ⟨rfl, rfl⟩ (by kernel_rfl) rfl
    (fun f fn hf hfn => by
      obtain rfl : f = 4 := Option.some.inj ((show Tryd.prog.funcNamed "joinery/joinerylaw23.AllocPuts" = some 4 by kernel_rfl).symm.trans hf) |>.symm
      obtain rfl : fn = Tryd.f4 := (Option.some.inj (Tryd.func4.symm.trans hfn)).symm
      exact ⟨by kernel_rfl, fun j t ht => by
        have hall : (Tryd.f4.params.toList.all fun u => !Tryd.prog.wantsStandIn u) = true := by kernel_rfl
        have hm : t ∈ Tryd.f4.params.toList := by
          have := Array.mem_of_getElem? ht
          simpa using this
        exact (show Tryd.prog.wantsStandIn t = false by simpa using List.all_eq_true.1 hall t hm)⟩)
    (by kernel_rfl)
end Go.Proofs.YtgdopmhgmpkahaaDoor

