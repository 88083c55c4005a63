/-
  InsTells, of every instruction: whether it only moves, what it needs and what gets a number is as the document says.
-/
import Derived.Test.YtegelpmmnddmnaaDoorE2
import Derived.Test.YtegelpmmnddmnaaDoorCards
import Derived.Test.YtegelpmmnddmnaaDoorP7
namespace Go.Proofs.YtegelpmmnddmnaaDoor
open Go.ChangeShapes Go.WideShapes Go.ChangeAt Go.RowKit
set_option linter.unusedVariables false
set_option linter.unusedSimpArgs false

theorem usesL_len (x : Ins) : (usesL x).length ≤ 2 := by
  rw [uses_same]
  unfold usesR
  split
  · simp
  · split <;> simp
theorem getD_encI {l : List Int} {j : Nat} (h : j < l.length) : (l.map encI).getD j [] = [.int .i64 (l.getD j 0)] := by
  simp [List.getD, h, encI]

theorem InsTells_ok (x : Ins) : Pure Tryd.prog 6 [insA x] (.bool true) := by
  intro H
  refine ACalls.go joinerylaw03_InsTells.low (by simp) fun hcl => ?_
  have h1 := ins_Uses_ok x
  have h2 := ref03_Uses_ok x
  have h3 := ins_Sets_ok x
  have h4 := ref03_Sets_ok x
  have hl := usesL_len x
  rw [← uses_same] at h2
  rw [insA_eq] at *
  unfold encInts setsA at *
  generalize usesL x = U at *
  generalize setsB x.op = sb1 at *
  replace h1 := Hold.mk h1
  replace h2 := Hold.mk h2
  replace h3 := Hold.mk h3
  replace h4 := Hold.mk h4
  replace hl := Hold.mk hl
  (refine R.seq ?_; refine LCB.text ?_; repeat' (first | simp only [seval, ev1, ev2, ev3, ev4, encB_def, encS_def, sb, insA, encIns, ins_dec, ins_eta, encInts, setsA, beq_self_eq_true, *] | simp (disch := omega) only [if_pos, if_neg]))
  refine R.cut [(1, .ptr H.length 1 0 0), (2, .bool false), (3, .list (U.map encI)), (4, .list (U.map encI))] (H ++ [.vec 6 [encIns x]]) ?_ ?_
  · refine LCB.any ?_
    repeat' (first | (refine Weak.at hcl ?_; simp only [seval, ev1, ev2, ev3, wk, List.forall_mem_cons, List.forall_mem_map, List.forall_mem_append, List.not_mem_nil, encB_def, encS_def, sb, insA, encIns, ins_dec, ins_eta, encInts, setsA, beq_self_eq_true, *]) | refine ACalls.pure h1.of ?_ | refine ACalls.pure h2.of ?_ | constructor | simp only [wpP, wpPs, wpT_none, pureStep, seval, ev1, ev2, ev3, ev4, encB_def, encS_def, sb, insA, encIns, ins_dec, ins_eta, encInts, setsA, beq_self_eq_true, *])
  repeat' (first | simp only [seval, ev1, ev2, ev3, ev4, encB_def, encS_def, sb, insA, encIns, ins_dec, ins_eta, encInts, setsA, beq_self_eq_true, *] | simp (disch := omega) only [if_pos, if_neg] | refine R.seq ?_ | refine LCB.text ?_ | refine LCB.quiet rfl ?_ | refine R.calls rfl ?_ | refine R.block ?_ | refine LCB.skip ?_ | refine LCB.exit ?_ | refine LCB.ret ?_ | (refine RetOk.val hcl ?_; simp only [seval, ev1, ev2, ev3, wk, List.forall_mem_cons, List.forall_mem_map, List.forall_mem_append, List.not_mem_nil, encB_def, encS_def, sb, insA, encIns, ins_dec, ins_eta, encInts, setsA, beq_self_eq_true, *]) | (refine Weak.at hcl ?_; simp only [seval, ev1, ev2, ev3, wk, List.forall_mem_cons, List.forall_mem_map, List.forall_mem_append, List.not_mem_nil, encB_def, encS_def, sb, insA, encIns, ins_dec, ins_eta, encInts, setsA, beq_self_eq_true, *]) | (refine LCB.cond (by (simp only [seval, ev1, ev2, ev3, ev4, encB_def, encS_def, sb, insA, encIns, ins_dec, ins_eta, encInts, setsA, beq_self_eq_true, *]) <;> rfl) (fun hc => ?_) (fun hc => ?_) <;> try simp only [seval, decide_eq_true_eq, decide_eq_false_iff_not, Bool.not_eq_true', Bool.not_eq_false', Bool.not_true, Bool.not_false] at hc) | (refine wpG_split (by (simp only [seval, ev1, ev2, ev3, ev4, encB_def, encS_def, sb, insA, encIns, ins_dec, ins_eta, encInts, setsA, beq_self_eq_true, *]) <;> rfl) (fun hc => ?_) (fun hc => ?_) <;> try simp only [seval, decide_eq_true_eq, decide_eq_false_iff_not, Bool.not_eq_true', Bool.not_eq_false', Bool.not_true, Bool.not_false] at hc) | (refine wqG_split (by (simp only [seval, ev1, ev2, ev3, ev4, encB_def, encS_def, sb, insA, encIns, ins_dec, ins_eta, encInts, setsA, beq_self_eq_true, *]) <;> rfl) (fun hc => ?_) (fun hc => ?_) <;> try simp only [seval, decide_eq_true_eq, decide_eq_false_iff_not, Bool.not_eq_true', Bool.not_eq_false', Bool.not_true, Bool.not_false] at hc) | refine ACalls.inst ?_ | refine CallP.inst rfl ?_)
  first | refine ACalls.pure (h3.of) ?_ | refine CallP.pure (h3.of) rfl ?_
  repeat' (first | simp only [seval, ev1, ev2, ev3, ev4, encB_def, encS_def, sb, insA, encIns, ins_dec, ins_eta, encInts, setsA, beq_self_eq_true, *] | simp (disch := omega) only [if_pos, if_neg] | refine R.seq ?_ | refine LCB.text ?_ | refine LCB.quiet rfl ?_ | refine R.calls rfl ?_ | refine R.block ?_ | refine LCB.skip ?_ | refine LCB.exit ?_ | refine LCB.ret ?_ | (refine RetOk.val hcl ?_; simp only [seval, ev1, ev2, ev3, wk, List.forall_mem_cons, List.forall_mem_map, List.forall_mem_append, List.not_mem_nil, encB_def, encS_def, sb, insA, encIns, ins_dec, ins_eta, encInts, setsA, beq_self_eq_true, *]) | (refine Weak.at hcl ?_; simp only [seval, ev1, ev2, ev3, wk, List.forall_mem_cons, List.forall_mem_map, List.forall_mem_append, List.not_mem_nil, encB_def, encS_def, sb, insA, encIns, ins_dec, ins_eta, encInts, setsA, beq_self_eq_true, *]) | (refine LCB.cond (by (simp only [seval, ev1, ev2, ev3, ev4, encB_def, encS_def, sb, insA, encIns, ins_dec, ins_eta, encInts, setsA, beq_self_eq_true, *]) <;> rfl) (fun hc => ?_) (fun hc => ?_) <;> try simp only [seval, decide_eq_true_eq, decide_eq_false_iff_not, Bool.not_eq_true', Bool.not_eq_false', Bool.not_true, Bool.not_false] at hc) | (refine wpG_split (by (simp only [seval, ev1, ev2, ev3, ev4, encB_def, encS_def, sb, insA, encIns, ins_dec, ins_eta, encInts, setsA, beq_self_eq_true, *]) <;> rfl) (fun hc => ?_) (fun hc => ?_) <;> try simp only [seval, decide_eq_true_eq, decide_eq_false_iff_not, Bool.not_eq_true', Bool.not_eq_false', Bool.not_true, Bool.not_false] at hc) | (refine wqG_split (by (simp only [seval, ev1, ev2, ev3, ev4, encB_def, encS_def, sb, insA, encIns, ins_dec, ins_eta, encInts, setsA, beq_self_eq_true, *]) <;> rfl) (fun hc => ?_) (fun hc => ?_) <;> try simp only [seval, decide_eq_true_eq, decide_eq_false_iff_not, Bool.not_eq_true', Bool.not_eq_false', Bool.not_true, Bool.not_false] at hc) | refine ACalls.inst ?_ | refine CallP.inst rfl ?_)
  first | refine ACalls.pure (h4.of) ?_ | refine CallP.pure (h4.of) rfl ?_
  cases sb1
  all_goals
    repeat' (first | simp only [seval, ev1, ev2, ev3, ev4, encB_def, encS_def, sb, insA, encIns, ins_dec, ins_eta, encInts, setsA, beq_self_eq_true, *] | simp (disch := omega) only [if_pos, if_neg] | refine R.seq ?_ | refine LCB.text ?_ | refine LCB.quiet rfl ?_ | refine R.calls rfl ?_ | refine R.block ?_ | refine LCB.skip ?_ | refine LCB.exit ?_ | refine LCB.ret ?_ | (refine RetOk.val hcl ?_; simp only [seval, ev1, ev2, ev3, wk, List.forall_mem_cons, List.forall_mem_map, List.forall_mem_append, List.not_mem_nil, encB_def, encS_def, sb, insA, encIns, ins_dec, ins_eta, encInts, setsA, beq_self_eq_true, *]) | (refine Weak.at hcl ?_; simp only [seval, ev1, ev2, ev3, wk, List.forall_mem_cons, List.forall_mem_map, List.forall_mem_append, List.not_mem_nil, encB_def, encS_def, sb, insA, encIns, ins_dec, ins_eta, encInts, setsA, beq_self_eq_true, *]) | (refine LCB.cond (by (simp only [seval, ev1, ev2, ev3, ev4, encB_def, encS_def, sb, insA, encIns, ins_dec, ins_eta, encInts, setsA, beq_self_eq_true, *]) <;> rfl) (fun hc => ?_) (fun hc => ?_) <;> try simp only [seval, decide_eq_true_eq, decide_eq_false_iff_not, Bool.not_eq_true', Bool.not_eq_false', Bool.not_true, Bool.not_false] at hc) | (refine wpG_split (by (simp only [seval, ev1, ev2, ev3, ev4, encB_def, encS_def, sb, insA, encIns, ins_dec, ins_eta, encInts, setsA, beq_self_eq_true, *]) <;> rfl) (fun hc => ?_) (fun hc => ?_) <;> try simp only [seval, decide_eq_true_eq, decide_eq_false_iff_not, Bool.not_eq_true', Bool.not_eq_false', Bool.not_true, Bool.not_false] at hc) | (refine wqG_split (by (simp only [seval, ev1, ev2, ev3, ev4, encB_def, encS_def, sb, insA, encIns, ins_dec, ins_eta, encInts, setsA, beq_self_eq_true, *]) <;> rfl) (fun hc => ?_) (fun hc => ?_) <;> try simp only [seval, decide_eq_true_eq, decide_eq_false_iff_not, Bool.not_eq_true', Bool.not_eq_false', Bool.not_true, Bool.not_false] at hc) | refine ACalls.inst ?_ | refine CallP.inst rfl ?_)
    refine R.loop (S := Nat) ⟨fun i => [(1, .ptr H.length 1 0 0), (3, .list (U.map encI)), (4, .list (U.map encI)), (9, .int .i64 (i : Int))], fun i => H ++ [.vec 6 [encIns x]], fun i => i ≤ U.length, fun i => U.length - i⟩ 0 (Nat.zero_le _) (Weak.at hcl ?_) ?_
    · simp only [seval, ev1, ev2, ev3, wk, List.forall_mem_cons, List.forall_mem_map, List.forall_mem_append, List.not_mem_nil, encB_def, encS_def, sb, insA, encIns, ins_dec, ins_eta, encInts, setsA, beq_self_eq_true, *]
    intro i hi
    simp only at hi ⊢
    have hl2 := hl.of
    by_cases hlt : i < U.length
    · have hg := getD_encI hlt
      have e1 : (i : Int) < (U.length : Int) := by omega
      have e2 : IntKind.i64.wrap ((i : Int) + 1) = ((i + 1 : Nat) : Int) := by rw [IntKind.wrap_i64]; omega
      generalize U.getD i 0 = v at *
      repeat' (first | simp only [seval, ev1, ev2, ev3, ev4, encB_def, encS_def, sb, insA, encIns, ins_dec, ins_eta, encInts, setsA, beq_self_eq_true, *] | simp (disch := omega) only [if_pos, if_neg] | refine R.seq ?_ | refine LCB.text ?_ | refine LCB.quiet rfl ?_ | refine R.calls rfl ?_ | refine R.block ?_ | refine LCB.skip ?_ | refine LCB.exit ?_ | refine LCB.ret ?_ | (refine RetOk.val hcl ?_; simp only [seval, ev1, ev2, ev3, wk, List.forall_mem_cons, List.forall_mem_map, List.forall_mem_append, List.not_mem_nil, encB_def, encS_def, sb, insA, encIns, ins_dec, ins_eta, encInts, setsA, beq_self_eq_true, *]) | (refine Weak.at hcl ?_; simp only [seval, ev1, ev2, ev3, wk, List.forall_mem_cons, List.forall_mem_map, List.forall_mem_append, List.not_mem_nil, encB_def, encS_def, sb, insA, encIns, ins_dec, ins_eta, encInts, setsA, beq_self_eq_true, *]) | (refine LCB.cond (by (simp only [seval, ev1, ev2, ev3, ev4, encB_def, encS_def, sb, insA, encIns, ins_dec, ins_eta, encInts, setsA, beq_self_eq_true, *]) <;> rfl) (fun hc => ?_) (fun hc => ?_) <;> try simp only [seval, decide_eq_true_eq, decide_eq_false_iff_not, Bool.not_eq_true', Bool.not_eq_false', Bool.not_true, Bool.not_false] at hc) | (refine wpG_split (by (simp only [seval, ev1, ev2, ev3, ev4, encB_def, encS_def, sb, insA, encIns, ins_dec, ins_eta, encInts, setsA, beq_self_eq_true, *]) <;> rfl) (fun hc => ?_) (fun hc => ?_) <;> try simp only [seval, decide_eq_true_eq, decide_eq_false_iff_not, Bool.not_eq_true', Bool.not_eq_false', Bool.not_true, Bool.not_false] at hc) | (refine wqG_split (by (simp only [seval, ev1, ev2, ev3, ev4, encB_def, encS_def, sb, insA, encIns, ins_dec, ins_eta, encInts, setsA, beq_self_eq_true, *]) <;> rfl) (fun hc => ?_) (fun hc => ?_) <;> try simp only [seval, decide_eq_true_eq, decide_eq_false_iff_not, Bool.not_eq_true', Bool.not_eq_false', Bool.not_true, Bool.not_false] at hc) | refine ACalls.inst ?_ | refine CallP.inst rfl ?_)
      refine ⟨i + 1, hlt, by simp only; omega, Weak.at hcl ?_⟩
      simp only [seval, ev1, ev2, ev3, wk, List.forall_mem_cons, List.forall_mem_map, List.forall_mem_append, List.not_mem_nil, encB_def, encS_def, sb, insA, encIns, ins_dec, ins_eta, encInts, setsA, beq_self_eq_true, *]
    · have hie : i = U.length := by omega
      subst hie
      have e1 : ¬ (U.length : Int) < (U.length : Int) := by omega
      repeat' (first | simp only [seval, ev1, ev2, ev3, ev4, encB_def, encS_def, sb, insA, encIns, ins_dec, ins_eta, encInts, setsA, beq_self_eq_true, *] | simp (disch := omega) only [if_pos, if_neg] | refine R.seq ?_ | refine LCB.text ?_ | refine LCB.quiet rfl ?_ | refine R.calls rfl ?_ | refine R.block ?_ | refine LCB.skip ?_ | refine LCB.exit ?_ | refine LCB.ret ?_ | (refine RetOk.val hcl ?_; simp only [seval, ev1, ev2, ev3, wk, List.forall_mem_cons, List.forall_mem_map, List.forall_mem_append, List.not_mem_nil, encB_def, encS_def, sb, insA, encIns, ins_dec, ins_eta, encInts, setsA, beq_self_eq_true, *]) | (refine Weak.at hcl ?_; simp only [seval, ev1, ev2, ev3, wk, List.forall_mem_cons, List.forall_mem_map, List.forall_mem_append, List.not_mem_nil, encB_def, encS_def, sb, insA, encIns, ins_dec, ins_eta, encInts, setsA, beq_self_eq_true, *]) | (refine LCB.cond (by (simp only [seval, ev1, ev2, ev3, ev4, encB_def, encS_def, sb, insA, encIns, ins_dec, ins_eta, encInts, setsA, beq_self_eq_true, *]) <;> rfl) (fun hc => ?_) (fun hc => ?_) <;> try simp only [seval, decide_eq_true_eq, decide_eq_false_iff_not, Bool.not_eq_true', Bool.not_eq_false', Bool.not_true, Bool.not_false] at hc) | (refine wpG_split (by (simp only [seval, ev1, ev2, ev3, ev4, encB_def, encS_def, sb, insA, encIns, ins_dec, ins_eta, encInts, setsA, beq_self_eq_true, *]) <;> rfl) (fun hc => ?_) (fun hc => ?_) <;> try simp only [seval, decide_eq_true_eq, decide_eq_false_iff_not, Bool.not_eq_true', Bool.not_eq_false', Bool.not_true, Bool.not_false] at hc) | (refine wqG_split (by (simp only [seval, ev1, ev2, ev3, ev4, encB_def, encS_def, sb, insA, encIns, ins_dec, ins_eta, encInts, setsA, beq_self_eq_true, *]) <;> rfl) (fun hc => ?_) (fun hc => ?_) <;> try simp only [seval, decide_eq_true_eq, decide_eq_false_iff_not, Bool.not_eq_true', Bool.not_eq_false', Bool.not_true, Bool.not_false] at hc) | refine ACalls.inst ?_ | refine CallP.inst rfl ?_)

theorem insTells_law : ∀ av, FitAs [.agg insSh] av → ACalls Tryd.prog 6 av [] fun r _ => r = .bool true := by
  rintro _ ⟨a, _, rfl, h1, rfl⟩
  obtain ⟨x, rfl, hx⟩ := h1.ins
  exact (InsTells_ok x).law

set_option maxRecDepth 100000 in
theorem insTells_lifted (os : Os) (started : os.Started) (H : Type) (enc : TypeId × Value → H) :
    ReturnsInHanded {} Tryd.checked os 6 .any (fun w args => (Rows.insTellsSpec.pre enc Tryd.prog Tryd.f6 [] false w args ∧ laidMetH Tryd.prog laidL w) ∧ sizedMet enc Tryd.prog Tryd.f6 (OpenSpec.ofChange Rows.insTellsSpec) false w args)
      (Rows.insTellsSpec.post enc Tryd.prog Tryd.f6 false true false false) := by
  refine returnsInHanded_of_change_and (C := Tryd.checked) (X := fun w _ => laidMetH Tryd.prog laidL w) (fun _ _ _ hh h => h.of_heap hh) own_ok started (by kernel_rfl) Tryd.func6
    (ChangeSpec.witness_shaped (enc := enc) (C := Tryd.checked) (os := os) (X := fun w _ => laidMetH Tryd.prog laidL w) false (World.doorLaid Tryd.prog 400 os) #[.agg #[.int .i64 0, .int .i64 0, .int .i64 0, .int .i64 0, .int .i64 0, .int .i64 0]] 8 rfl (World.shaped_of_RefB (by kernel_rfl) (by kernel_rfl)) (by kernel_rfl) (by kernel_rfl) (by kernel_rfl) (door_met os _)) ?_
  intro W base args ds gs before hval0 hW _ _ hL _
  exact law_contract (base := base) laid_ok rfl (by kernel_rfl) (by kernel_rfl) (by kernel_rfl)
    (fun ds hl => by
      match ds, hl with
      | [d1], _ => rfl) (glob_of_laid hL) insTells_law hval0 hW

set_option maxRecDepth 100000 in
theorem insTells_row : Rows.InsTellsSaid :=
  OpenClaim.holds_of_wide 6 Tryd.f6 rfl rfl rfl rfl rfl rfl rfl ⟨rfl, rfl, rfl, rfl, rfl⟩ rfl rfl rfl rfl rfl (by kernel_rfl) Tryd.func6 (by kernel_rfl)
    (of_decide_eq_true (by kernel_rfl)) (by unfold Func.isWrapper; first | (rw [if_pos (by decide +kernel)]; kernel_rfl) | (rw [if_neg (by decide +kernel)]; exact ⟨rfl, rfl⟩))
    (fun os started H enc _ => insTells_lifted os started H enc)

set_option maxRecDepth 100000 in
/-- **InsTells.** -/
theorem insTells_holds : Rows.InsTellsCardSaid :=
  Claim7.holds_tied_plain_at .later [] [.data] true (true, "ea436687d0deeacd77ca67d6f208ce3885f48303042962dd21798ef3c4b6c9cf") false
    insTells_row (fun _ h => by cases h) (by kernel_rfl) (fun _ h => by cases h) insTells_row_tie rfl ⟨rfl, rfl⟩ (by kernel_rfl) rfl
    (fun f fn hf hfn => by
      obtain rfl : f = 6 := Option.some.inj ((show Tryd.prog.funcNamed "joinery/joinerylaw03.InsTells" = some 6 by kernel_rfl).symm.trans hf) |>.symm
      obtain rfl : fn = Tryd.f6 := (Option.some.inj (Tryd.func6.symm.trans hfn)).symm
      exact ⟨by kernel_rfl, fun j t ht => by
        have hall : (Tryd.f6.params.toList.all fun u => !Tryd.prog.wantsStandIn u) = true := by kernel_rfl
        have hm : t ∈ Tryd.f6.params.toList := by
          have := Array.mem_of_getElem? ht
          simpa using this
        exact (show Tryd.prog.wantsStandIn t = false by simpa using List.all_eq_true.1 hall t hm)⟩)
    (by kernel_rfl)
end Go.Proofs.YtegelpmmnddmnaaDoor
