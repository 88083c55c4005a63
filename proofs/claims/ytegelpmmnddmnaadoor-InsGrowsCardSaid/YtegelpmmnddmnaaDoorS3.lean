/-
  InsGrows, of every instruction and numbers: what is right in a function is right in a longer one.
-/
import Derived.Test.YtegelpmmnddmnaaDoorE2
import Derived.Test.YtegelpmmnddmnaaDoorCards
import Derived.Test.YtegelpmmnddmnaaDoorP7
namespace Go.Proofs.YtegelpmmnddmnaaDoor
open Go.ChangeShapes Go.WideShapes Go.ChangeAt Go.RowKit
set_option linter.unusedVariables false
set_option linter.unusedSimpArgs false

theorem chk_grow (x : Ins) (n m : Int) (h : n ≤ m) : (chk x n = 0 → chk x m = 0) ∧ (chk x n = chk x m ∨ x.op = 16 ∨ x.op = 17) := by
  rw [chk_same, chk_same]
  unfold chkR farOff
  cases badFormR x <;> cases badPlaceR x <;> simp <;> omega
theorem InsGrows_ok (x : Ins) (n : Int) (m : Nat) (hn : in64 n) (hm : m < 256) : Pure Tryd.prog 9 [insA x, .int .i64 n, .int .u8 (m : Int)] (.bool true) := by
  intro H
  refine ACalls.go joinerylaw03_InsGrows.low (by simp) fun hcl => ?_
  have h1 := ins_Check_ok x n
  have h2 := ins_Check_ok x (n + (m : Int))
  obtain ⟨g1, g2⟩ := chk_grow x n (n + (m : Int)) (by omega)
  rw [insA_eq] at *
  replace h1 := Hold.mk h1
  replace h2 := Hold.mk h2
  replace g1 := Hold.mk g1
  replace g2 := Hold.mk g2
  unfold in64 at hn
  obtain ⟨hn1, hn2⟩ := hn
  have w1 : IntKind.i64.wrap (m : Int) = (m : Int) := wrap64 (by unfold in64; omega)
  by_cases hbig : 1099511627776 < n
  · repeat' (first | simp only [seval, ev1, ev2, ev3, ev4, encB_def, encS_def, encI_def, sb, insA, encIns, ins_dec, ins_eta, *] | simp (disch := omega) only [if_pos, if_neg] | refine R.seq ?_ | refine LCB.text ?_ | refine LCB.quiet rfl ?_ | refine R.calls rfl ?_ | refine R.block ?_ | refine LCB.skip ?_ | refine LCB.exit ?_ | refine LCB.ret ?_ | (refine RetOk.val hcl ?_; simp only [seval, ev1, ev2, ev3, wk, List.forall_mem_cons, List.forall_mem_map, List.forall_mem_append, List.not_mem_nil, encB_def, encS_def, encI_def, sb, insA, encIns, ins_dec, ins_eta, *]) | (refine Weak.at hcl ?_; simp only [seval, ev1, ev2, ev3, wk, List.forall_mem_cons, List.forall_mem_map, List.forall_mem_append, List.not_mem_nil, encB_def, encS_def, encI_def, sb, insA, encIns, ins_dec, ins_eta, *]) | (refine LCB.cond (by (simp only [seval, ev1, ev2, ev3, ev4, encB_def, encS_def, encI_def, sb, insA, encIns, ins_dec, ins_eta, *]) <;> rfl) (fun hc => ?_) (fun hc => ?_) <;> try simp only [seval, decide_eq_true_eq, decide_eq_false_iff_not, Bool.not_eq_true', Bool.not_eq_false', Bool.not_true, Bool.not_false] at hc) | (refine wpG_split (by (simp only [seval, ev1, ev2, ev3, ev4, encB_def, encS_def, encI_def, sb, insA, encIns, ins_dec, ins_eta, *]) <;> rfl) (fun hc => ?_) (fun hc => ?_) <;> try simp only [seval, decide_eq_true_eq, decide_eq_false_iff_not, Bool.not_eq_true', Bool.not_eq_false', Bool.not_true, Bool.not_false] at hc) | (refine wqG_split (by (simp only [seval, ev1, ev2, ev3, ev4, encB_def, encS_def, encI_def, sb, insA, encIns, ins_dec, ins_eta, *]) <;> rfl) (fun hc => ?_) (fun hc => ?_) <;> try simp only [seval, decide_eq_true_eq, decide_eq_false_iff_not, Bool.not_eq_true', Bool.not_eq_false', Bool.not_true, Bool.not_false] at hc) | refine ACalls.inst ?_ | refine CallP.inst rfl ?_)
  have w2 : IntKind.i64.wrap (n + (m : Int)) = n + (m : Int) := wrap64 (by unfold in64; omega)
  repeat' (first | simp only [seval, ev1, ev2, ev3, ev4, encB_def, encS_def, encI_def, sb, insA, encIns, ins_dec, ins_eta, *] | simp (disch := omega) only [if_pos, if_neg] | refine R.seq ?_ | refine LCB.text ?_ | refine LCB.quiet rfl ?_ | refine R.calls rfl ?_ | refine R.block ?_ | refine LCB.skip ?_ | refine LCB.exit ?_ | refine LCB.ret ?_ | (refine RetOk.val hcl ?_; simp only [seval, ev1, ev2, ev3, wk, List.forall_mem_cons, List.forall_mem_map, List.forall_mem_append, List.not_mem_nil, encB_def, encS_def, encI_def, sb, insA, encIns, ins_dec, ins_eta, *]) | (refine Weak.at hcl ?_; simp only [seval, ev1, ev2, ev3, wk, List.forall_mem_cons, List.forall_mem_map, List.forall_mem_append, List.not_mem_nil, encB_def, encS_def, encI_def, sb, insA, encIns, ins_dec, ins_eta, *]) | (refine LCB.cond (by (simp only [seval, ev1, ev2, ev3, ev4, encB_def, encS_def, encI_def, sb, insA, encIns, ins_dec, ins_eta, *]) <;> rfl) (fun hc => ?_) (fun hc => ?_) <;> try simp only [seval, decide_eq_true_eq, decide_eq_false_iff_not, Bool.not_eq_true', Bool.not_eq_false', Bool.not_true, Bool.not_false] at hc) | (refine wpG_split (by (simp only [seval, ev1, ev2, ev3, ev4, encB_def, encS_def, encI_def, sb, insA, encIns, ins_dec, ins_eta, *]) <;> rfl) (fun hc => ?_) (fun hc => ?_) <;> try simp only [seval, decide_eq_true_eq, decide_eq_false_iff_not, Bool.not_eq_true', Bool.not_eq_false', Bool.not_true, Bool.not_false] at hc) | (refine wqG_split (by (simp only [seval, ev1, ev2, ev3, ev4, encB_def, encS_def, encI_def, sb, insA, encIns, ins_dec, ins_eta, *]) <;> rfl) (fun hc => ?_) (fun hc => ?_) <;> try simp only [seval, decide_eq_true_eq, decide_eq_false_iff_not, Bool.not_eq_true', Bool.not_eq_false', Bool.not_true, Bool.not_false] at hc) | refine ACalls.inst ?_ | refine CallP.inst rfl ?_)
  refine CallP.pure h1.of rfl ?_
  repeat' (first | simp only [seval, ev1, ev2, ev3, ev4, encB_def, encS_def, encI_def, sb, insA, encIns, ins_dec, ins_eta, *] | simp (disch := omega) only [if_pos, if_neg] | refine R.seq ?_ | refine LCB.text ?_ | refine LCB.quiet rfl ?_ | refine R.calls rfl ?_ | refine R.block ?_ | refine LCB.skip ?_ | refine LCB.exit ?_ | refine LCB.ret ?_ | (refine RetOk.val hcl ?_; simp only [seval, ev1, ev2, ev3, wk, List.forall_mem_cons, List.forall_mem_map, List.forall_mem_append, List.not_mem_nil, encB_def, encS_def, encI_def, sb, insA, encIns, ins_dec, ins_eta, *]) | (refine Weak.at hcl ?_; simp only [seval, ev1, ev2, ev3, wk, List.forall_mem_cons, List.forall_mem_map, List.forall_mem_append, List.not_mem_nil, encB_def, encS_def, encI_def, sb, insA, encIns, ins_dec, ins_eta, *]) | (refine LCB.cond (by (simp only [seval, ev1, ev2, ev3, ev4, encB_def, encS_def, encI_def, sb, insA, encIns, ins_dec, ins_eta, *]) <;> rfl) (fun hc => ?_) (fun hc => ?_) <;> try simp only [seval, decide_eq_true_eq, decide_eq_false_iff_not, Bool.not_eq_true', Bool.not_eq_false', Bool.not_true, Bool.not_false] at hc) | (refine wpG_split (by (simp only [seval, ev1, ev2, ev3, ev4, encB_def, encS_def, encI_def, sb, insA, encIns, ins_dec, ins_eta, *]) <;> rfl) (fun hc => ?_) (fun hc => ?_) <;> try simp only [seval, decide_eq_true_eq, decide_eq_false_iff_not, Bool.not_eq_true', Bool.not_eq_false', Bool.not_true, Bool.not_false] at hc) | (refine wqG_split (by (simp only [seval, ev1, ev2, ev3, ev4, encB_def, encS_def, encI_def, sb, insA, encIns, ins_dec, ins_eta, *]) <;> rfl) (fun hc => ?_) (fun hc => ?_) <;> try simp only [seval, decide_eq_true_eq, decide_eq_false_iff_not, Bool.not_eq_true', Bool.not_eq_false', Bool.not_true, Bool.not_false] at hc) | refine ACalls.inst ?_ | refine CallP.inst rfl ?_)
  refine CallP.pure h2.of rfl ?_
  generalize chk x n = e at *
  generalize chk x (n + (m : Int)) = f at *
  repeat' (first | simp only [seval, ev1, ev2, ev3, ev4, encB_def, encS_def, encI_def, sb, insA, encIns, ins_dec, ins_eta, *] | simp (disch := omega) only [if_pos, if_neg] | refine R.seq ?_ | refine LCB.text ?_ | refine LCB.quiet rfl ?_ | refine R.calls rfl ?_ | refine R.block ?_ | refine LCB.skip ?_ | refine LCB.exit ?_ | refine LCB.ret ?_ | (refine RetOk.val hcl ?_; simp only [seval, ev1, ev2, ev3, wk, List.forall_mem_cons, List.forall_mem_map, List.forall_mem_append, List.not_mem_nil, encB_def, encS_def, encI_def, sb, insA, encIns, ins_dec, ins_eta, *]) | (refine Weak.at hcl ?_; simp only [seval, ev1, ev2, ev3, wk, List.forall_mem_cons, List.forall_mem_map, List.forall_mem_append, List.not_mem_nil, encB_def, encS_def, encI_def, sb, insA, encIns, ins_dec, ins_eta, *]) | (refine LCB.cond (by (simp only [seval, ev1, ev2, ev3, ev4, encB_def, encS_def, encI_def, sb, insA, encIns, ins_dec, ins_eta, *]) <;> rfl) (fun hc => ?_) (fun hc => ?_) <;> try simp only [seval, decide_eq_true_eq, decide_eq_false_iff_not, Bool.not_eq_true', Bool.not_eq_false', Bool.not_true, Bool.not_false] at hc) | (refine wpG_split (by (simp only [seval, ev1, ev2, ev3, ev4, encB_def, encS_def, encI_def, sb, insA, encIns, ins_dec, ins_eta, *]) <;> rfl) (fun hc => ?_) (fun hc => ?_) <;> try simp only [seval, decide_eq_true_eq, decide_eq_false_iff_not, Bool.not_eq_true', Bool.not_eq_false', Bool.not_true, Bool.not_false] at hc) | (refine wqG_split (by (simp only [seval, ev1, ev2, ev3, ev4, encB_def, encS_def, encI_def, sb, insA, encIns, ins_dec, ins_eta, *]) <;> rfl) (fun hc => ?_) (fun hc => ?_) <;> try simp only [seval, decide_eq_true_eq, decide_eq_false_iff_not, Bool.not_eq_true', Bool.not_eq_false', Bool.not_true, Bool.not_false] at hc) | refine ACalls.inst ?_ | refine CallP.inst rfl ?_)
  all_goals
    have q1 := g1.of
    have q2 := g2.of
    omega

theorem insGrows_law : ∀ av, FitAs [.agg insSh, .one (.int .i64), .one (.int .u8)] av → ACalls Tryd.prog 9 av [] fun r _ => r = .bool true := by
  rintro _ ⟨a, _, rfl, h1, b, _, rfl, h2, c, _, rfl, h3, rfl⟩
  obtain ⟨x, rfl, _⟩ := h1.ins
  obtain ⟨n, rfl, hn⟩ := h2.i64
  obtain ⟨m, rfl, hm⟩ := h3.u8
  exact (InsGrows_ok x n m hn hm).law

set_option maxRecDepth 100000 in
theorem insGrows_lifted (os : Os) (started : os.Started) (H : Type) (enc : TypeId × Value → H) :
    ReturnsInHanded {} Tryd.checked os 9 .any (fun w args => (Rows.insGrowsSpec.pre enc Tryd.prog Tryd.f9 [] false w args ∧ laidMetH Tryd.prog laidL w) ∧ sizedMet enc Tryd.prog Tryd.f9 (OpenSpec.ofChange Rows.insGrowsSpec) false w args)
      (Rows.insGrowsSpec.post enc Tryd.prog Tryd.f9 false true false false) := by
  refine returnsInHanded_of_change_and (C := Tryd.checked) (X := fun w _ => laidMetH Tryd.prog laidL w) (fun _ _ _ hh h => h.of_heap hh) own_ok started (by kernel_rfl) Tryd.func9
    (ChangeSpec.witness_shaped (enc := enc) (C := Tryd.checked) (os := os) (X := fun w _ => laidMetH Tryd.prog laidL w) false (World.doorLaid Tryd.prog 400 os) #[.agg #[.int .i64 0, .int .i64 0, .int .i64 0, .int .i64 0, .int .i64 0, .int .i64 0], .int .i64 0, .int .u8 0] 8 rfl (World.shaped_of_RefB (by kernel_rfl) (by kernel_rfl)) (by kernel_rfl) (by kernel_rfl) (by kernel_rfl) (door_met os _)) ?_
  intro W base args ds gs before hval0 hW _ _ hL _
  exact law_contract (base := base) laid_ok rfl (by kernel_rfl) (by kernel_rfl) (by kernel_rfl)
    (fun ds hl => by
      match ds, hl with
      | [d1, d2, d3], _ => rfl) (glob_of_laid hL) insGrows_law hval0 hW

set_option maxRecDepth 100000 in
theorem insGrows_row : Rows.InsGrowsSaid :=
  OpenClaim.holds_of_wide 9 Tryd.f9 rfl rfl rfl rfl rfl rfl rfl ⟨rfl, rfl, rfl, rfl, rfl⟩ rfl rfl rfl rfl rfl (by kernel_rfl) Tryd.func9 (by kernel_rfl)
    (of_decide_eq_true (by kernel_rfl)) (by unfold Func.isWrapper; first | (rw [if_pos (by decide +kernel)]; kernel_rfl) | (rw [if_neg (by decide +kernel)]; exact ⟨rfl, rfl⟩))
    (fun os started H enc _ => insGrows_lifted os started H enc)

set_option maxRecDepth 100000 in
/-- **InsGrows.** -/
theorem insGrows_holds : Rows.InsGrowsCardSaid :=
  Claim7.holds_tied_plain_at .later [] [.data] true (true, "ea436687d0deeacd77ca67d6f208ce3885f48303042962dd21798ef3c4b6c9cf") false
    insGrows_row (fun _ h => by cases h) (by kernel_rfl) (fun _ h => by cases h) insGrows_row_tie rfl ⟨rfl, rfl⟩ (by kernel_rfl) rfl
    (fun f fn hf hfn => by
      obtain rfl : f = 9 := Option.some.inj ((show Tryd.prog.funcNamed "joinery/joinerylaw03.InsGrows" = some 9 by kernel_rfl).symm.trans hf) |>.symm
      obtain rfl : fn = Tryd.f9 := (Option.some.inj (Tryd.func9.symm.trans hfn)).symm
      exact ⟨by kernel_rfl, fun j t ht => by
        have hall : (Tryd.f9.params.toList.all fun u => !Tryd.prog.wantsStandIn u) = true := by kernel_rfl
        have hm : t ∈ Tryd.f9.params.toList := by
          have := Array.mem_of_getElem? ht
          simpa using this
        exact (show Tryd.prog.wantsStandIn t = false by simpa using List.all_eq_true.1 hall t hm)⟩)
    (by kernel_rfl)
end Go.Proofs.YtegelpmmnddmnaaDoor
