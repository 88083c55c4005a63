/-
  InsPlaces, of every instruction: of what is right, what it needs and sets are registers.
-/
import Derived.Test.YtegelpmmnddmnaaDoorE2
import Derived.Test.YtegelpmmnddmnaaDoorCards
import Derived.Test.YtegelpmmnddmnaaDoorP7
namespace Go.Proofs.YtegelpmmnddmnaaDoor
open Go.ChangeShapes Go.WideShapes Go.ChangeAt Go.RowKit
set_option linter.unusedVariables false
set_option linter.unusedSimpArgs false

theorem places_law {x : Ins} (h : chk x 200 = 0) : (usesL x).length ≤ 2 ∧ (∀ v ∈ usesL x, 0 ≤ v ∧ v ≤ 7) ∧ (movesB x.op = true → usesL x = [] ∧ setsB x.op = false) ∧ (movesB x.op = false → 1 ≤ (usesL x).length ∧ (usesL x).length ≤ 2 ∧ (setsB x.op = true → 0 ≤ x.d ∧ x.d ≤ 7)) := by
  have hop := op_cases (chk_good h).1
  rw [uses_same]
  rw [chk_same] at h
  unfold chkR at h
  have hp : badPlaceR x = false := by
    cases hb : badFormR x
    · cases hp : badPlaceR x
      · rfl
      · simp [hb, hp] at h
    · simp [hb] at h
  unfold badPlaceR inR at hp
  unfold usesR movesB setsB
  rcases hop with e | e | e | e | e | e | e | e | e | e | e | e | e | e | e | e | e | e <;> rw [e] at hp ⊢ <;> simp at hp ⊢ <;> omega

theorem getD_encI {l : List Int} {j : Nat} (h : j < l.length) : (l.map encI).getD j [] = [.int .i64 (l.getD j 0)] := by
  simp [List.getD, h, encI]

theorem InsPlaces_ok (x : Ins) : Pure Tryd.prog 10 [insA x] (.bool true) := by
  intro H
  refine ACalls.go joinerylaw03_InsPlaces.low (by simp) fun hcl => ?_
  have h1 := ins_Check_ok x 200
  have h2 := ins_Uses_ok x
  have h3 := ins_Sets_ok x
  have hl := places_law (x := x)
  rw [insA_eq] at *
  replace h1 := Hold.mk h1
  replace h2 := Hold.mk h2
  replace h3 := Hold.mk h3
  replace hl := Hold.mk hl
  repeat' (first | simp only [seval, ev1, ev2, ev3, ev4, encB_def, encS_def, sb, insA, encIns, ins_dec, ins_eta, encInts, setsA, *] | simp (disch := omega) only [if_pos, if_neg] | refine R.seq ?_ | refine LCB.text ?_ | refine LCB.quiet rfl ?_ | refine R.calls rfl ?_ | refine R.block ?_ | refine LCB.skip ?_ | refine LCB.exit ?_ | refine LCB.ret ?_ | (refine RetOk.val hcl ?_; simp only [seval, ev1, ev2, ev3, wk, List.forall_mem_cons, List.forall_mem_map, List.forall_mem_append, List.not_mem_nil, encB_def, encS_def, sb, insA, encIns, ins_dec, ins_eta, encInts, setsA, *]) | (refine Weak.at hcl ?_; simp only [seval, ev1, ev2, ev3, wk, List.forall_mem_cons, List.forall_mem_map, List.forall_mem_append, List.not_mem_nil, encB_def, encS_def, sb, insA, encIns, ins_dec, ins_eta, encInts, setsA, *]) | (refine LCB.cond (by (simp only [seval, ev1, ev2, ev3, ev4, encB_def, encS_def, sb, insA, encIns, ins_dec, ins_eta, encInts, setsA, *]) <;> rfl) (fun hc => ?_) (fun hc => ?_) <;> try simp only [seval, decide_eq_true_eq, decide_eq_false_iff_not, Bool.not_eq_true', Bool.not_eq_false', Bool.not_true, Bool.not_false] at hc) | (refine wpG_split (by (simp only [seval, ev1, ev2, ev3, ev4, encB_def, encS_def, sb, insA, encIns, ins_dec, ins_eta, encInts, setsA, *]) <;> rfl) (fun hc => ?_) (fun hc => ?_) <;> try simp only [seval, decide_eq_true_eq, decide_eq_false_iff_not, Bool.not_eq_true', Bool.not_eq_false', Bool.not_true, Bool.not_false] at hc) | (refine wqG_split (by (simp only [seval, ev1, ev2, ev3, ev4, encB_def, encS_def, sb, insA, encIns, ins_dec, ins_eta, encInts, setsA, *]) <;> rfl) (fun hc => ?_) (fun hc => ?_) <;> try simp only [seval, decide_eq_true_eq, decide_eq_false_iff_not, Bool.not_eq_true', Bool.not_eq_false', Bool.not_true, Bool.not_false] at hc) | refine ACalls.inst ?_ | refine CallP.inst rfl ?_)
  first | refine ACalls.pure (h1.of) ?_ | refine CallP.pure (h1.of) rfl ?_
  by_cases hk : chk x 200 = 0
  · obtain ⟨l0, l1, l2, l3⟩ := hl.of hk
    clear hl
    unfold encInts setsA at *
    generalize usesL x = U at *
    replace l1 := Hold.mk l1
    replace l2 := Hold.mk l2
    replace l3 := Hold.mk l3
    repeat' (first | simp only [seval, ev1, ev2, ev3, ev4, encB_def, encS_def, sb, insA, encIns, ins_dec, ins_eta, encInts, setsA, *] | simp (disch := omega) only [if_pos, if_neg] | refine R.seq ?_ | refine LCB.text ?_ | refine LCB.quiet rfl ?_ | refine R.calls rfl ?_ | refine R.block ?_ | refine LCB.skip ?_ | refine LCB.exit ?_ | refine LCB.ret ?_ | (refine RetOk.val hcl ?_; simp only [seval, ev1, ev2, ev3, wk, List.forall_mem_cons, List.forall_mem_map, List.forall_mem_append, List.not_mem_nil, encB_def, encS_def, sb, insA, encIns, ins_dec, ins_eta, encInts, setsA, *]) | (refine Weak.at hcl ?_; simp only [seval, ev1, ev2, ev3, wk, List.forall_mem_cons, List.forall_mem_map, List.forall_mem_append, List.not_mem_nil, encB_def, encS_def, sb, insA, encIns, ins_dec, ins_eta, encInts, setsA, *]) | (refine LCB.cond (by (simp only [seval, ev1, ev2, ev3, ev4, encB_def, encS_def, sb, insA, encIns, ins_dec, ins_eta, encInts, setsA, *]) <;> rfl) (fun hc => ?_) (fun hc => ?_) <;> try simp only [seval, decide_eq_true_eq, decide_eq_false_iff_not, Bool.not_eq_true', Bool.not_eq_false', Bool.not_true, Bool.not_false] at hc) | (refine wpG_split (by (simp only [seval, ev1, ev2, ev3, ev4, encB_def, encS_def, sb, insA, encIns, ins_dec, ins_eta, encInts, setsA, *]) <;> rfl) (fun hc => ?_) (fun hc => ?_) <;> try simp only [seval, decide_eq_true_eq, decide_eq_false_iff_not, Bool.not_eq_true', Bool.not_eq_false', Bool.not_true, Bool.not_false] at hc) | (refine wqG_split (by (simp only [seval, ev1, ev2, ev3, ev4, encB_def, encS_def, sb, insA, encIns, ins_dec, ins_eta, encInts, setsA, *]) <;> rfl) (fun hc => ?_) (fun hc => ?_) <;> try simp only [seval, decide_eq_true_eq, decide_eq_false_iff_not, Bool.not_eq_true', Bool.not_eq_false', Bool.not_true, Bool.not_false] at hc) | refine ACalls.inst ?_ | refine CallP.inst rfl ?_)
    first | refine ACalls.pure (h2.of) ?_ | refine CallP.pure (h2.of) rfl ?_
    repeat' (first | simp only [seval, ev1, ev2, ev3, ev4, encB_def, encS_def, sb, insA, encIns, ins_dec, ins_eta, encInts, setsA, *] | simp (disch := omega) only [if_pos, if_neg] | refine R.seq ?_ | refine LCB.text ?_ | refine LCB.quiet rfl ?_ | refine R.calls rfl ?_ | refine R.block ?_ | refine LCB.skip ?_ | refine LCB.exit ?_ | refine LCB.ret ?_ | (refine RetOk.val hcl ?_; simp only [seval, ev1, ev2, ev3, wk, List.forall_mem_cons, List.forall_mem_map, List.forall_mem_append, List.not_mem_nil, encB_def, encS_def, sb, insA, encIns, ins_dec, ins_eta, encInts, setsA, *]) | (refine Weak.at hcl ?_; simp only [seval, ev1, ev2, ev3, wk, List.forall_mem_cons, List.forall_mem_map, List.forall_mem_append, List.not_mem_nil, encB_def, encS_def, sb, insA, encIns, ins_dec, ins_eta, encInts, setsA, *]) | (refine LCB.cond (by (simp only [seval, ev1, ev2, ev3, ev4, encB_def, encS_def, sb, insA, encIns, ins_dec, ins_eta, encInts, setsA, *]) <;> rfl) (fun hc => ?_) (fun hc => ?_) <;> try simp only [seval, decide_eq_true_eq, decide_eq_false_iff_not, Bool.not_eq_true', Bool.not_eq_false', Bool.not_true, Bool.not_false] at hc) | (refine wpG_split (by (simp only [seval, ev1, ev2, ev3, ev4, encB_def, encS_def, sb, insA, encIns, ins_dec, ins_eta, encInts, setsA, *]) <;> rfl) (fun hc => ?_) (fun hc => ?_) <;> try simp only [seval, decide_eq_true_eq, decide_eq_false_iff_not, Bool.not_eq_true', Bool.not_eq_false', Bool.not_true, Bool.not_false] at hc) | (refine wqG_split (by (simp only [seval, ev1, ev2, ev3, ev4, encB_def, encS_def, sb, insA, encIns, ins_dec, ins_eta, encInts, setsA, *]) <;> rfl) (fun hc => ?_) (fun hc => ?_) <;> try simp only [seval, decide_eq_true_eq, decide_eq_false_iff_not, Bool.not_eq_true', Bool.not_eq_false', Bool.not_true, Bool.not_false] at hc) | refine ACalls.inst ?_ | refine CallP.inst rfl ?_)
    first | refine ACalls.pure (h3.of) ?_ | refine CallP.pure (h3.of) rfl ?_
    repeat' (first | simp only [seval, ev1, ev2, ev3, ev4, encB_def, encS_def, sb, insA, encIns, ins_dec, ins_eta, encInts, setsA, *] | simp (disch := omega) only [if_pos, if_neg] | refine R.seq ?_ | refine LCB.text ?_ | refine LCB.quiet rfl ?_ | refine R.calls rfl ?_ | refine R.block ?_ | refine LCB.skip ?_ | refine LCB.exit ?_ | refine LCB.ret ?_ | (refine RetOk.val hcl ?_; simp only [seval, ev1, ev2, ev3, wk, List.forall_mem_cons, List.forall_mem_map, List.forall_mem_append, List.not_mem_nil, encB_def, encS_def, sb, insA, encIns, ins_dec, ins_eta, encInts, setsA, *]) | (refine Weak.at hcl ?_; simp only [seval, ev1, ev2, ev3, wk, List.forall_mem_cons, List.forall_mem_map, List.forall_mem_append, List.not_mem_nil, encB_def, encS_def, sb, insA, encIns, ins_dec, ins_eta, encInts, setsA, *]) | (refine LCB.cond (by (simp only [seval, ev1, ev2, ev3, ev4, encB_def, encS_def, sb, insA, encIns, ins_dec, ins_eta, encInts, setsA, *]) <;> rfl) (fun hc => ?_) (fun hc => ?_) <;> try simp only [seval, decide_eq_true_eq, decide_eq_false_iff_not, Bool.not_eq_true', Bool.not_eq_false', Bool.not_true, Bool.not_false] at hc) | (refine wpG_split (by (simp only [seval, ev1, ev2, ev3, ev4, encB_def, encS_def, sb, insA, encIns, ins_dec, ins_eta, encInts, setsA, *]) <;> rfl) (fun hc => ?_) (fun hc => ?_) <;> try simp only [seval, decide_eq_true_eq, decide_eq_false_iff_not, Bool.not_eq_true', Bool.not_eq_false', Bool.not_true, Bool.not_false] at hc) | (refine wqG_split (by (simp only [seval, ev1, ev2, ev3, ev4, encB_def, encS_def, sb, insA, encIns, ins_dec, ins_eta, encInts, setsA, *]) <;> rfl) (fun hc => ?_) (fun hc => ?_) <;> try simp only [seval, decide_eq_true_eq, decide_eq_false_iff_not, Bool.not_eq_true', Bool.not_eq_false', Bool.not_true, Bool.not_false] at hc) | refine ACalls.inst ?_ | refine CallP.inst rfl ?_)
    refine R.loop (S := Nat) ⟨fun i => [(1, .ptr H.length 1 0 0), (3, .list (U.map encI)), (4, .int .i64 (if setsB x.op then x.d else 0)), (5, .bool (setsB x.op)), (6, .int .i64 (i : Int))], fun i => H ++ [.vec 6 [encIns x]], fun i => i ≤ U.length, fun i => U.length - i⟩ 0 (Nat.zero_le _) (Weak.at hcl ?_) ?_
    · simp only [seval, ev1, ev2, ev3, wk, List.forall_mem_cons, List.forall_mem_map, List.forall_mem_append, List.not_mem_nil, encB_def, encS_def, sb, insA, encIns, ins_dec, ins_eta, encInts, setsA, *]
    intro i hi
    simp only at hi ⊢
    by_cases hlt : i < U.length
    · have hg := getD_encI hlt
      have e1 : (i : Int) < (U.length : Int) := by omega
      have hb := l1.of (U.getD i 0) (by simp [List.getD, hlt])
      obtain ⟨hb1, hb2⟩ := hb
      have e2 : IntKind.i64.wrap ((i : Int) + 1) = ((i + 1 : Nat) : Int) := by rw [IntKind.wrap_i64]; omega
      generalize U.getD i 0 = v at *
      have n1 : ¬ v < 0 := by omega
      have n2 : ¬ 7 < v := by omega
      repeat' (first | simp only [seval, ev1, ev2, ev3, ev4, encB_def, encS_def, sb, insA, encIns, ins_dec, ins_eta, encInts, setsA, *] | simp (disch := omega) only [if_pos, if_neg] | refine R.seq ?_ | refine LCB.text ?_ | refine LCB.quiet rfl ?_ | refine R.calls rfl ?_ | refine R.block ?_ | refine LCB.skip ?_ | refine LCB.exit ?_ | refine LCB.ret ?_ | (refine RetOk.val hcl ?_; simp only [seval, ev1, ev2, ev3, wk, List.forall_mem_cons, List.forall_mem_map, List.forall_mem_append, List.not_mem_nil, encB_def, encS_def, sb, insA, encIns, ins_dec, ins_eta, encInts, setsA, *]) | (refine Weak.at hcl ?_; simp only [seval, ev1, ev2, ev3, wk, List.forall_mem_cons, List.forall_mem_map, List.forall_mem_append, List.not_mem_nil, encB_def, encS_def, sb, insA, encIns, ins_dec, ins_eta, encInts, setsA, *]) | (refine LCB.cond (by (simp only [seval, ev1, ev2, ev3, ev4, encB_def, encS_def, sb, insA, encIns, ins_dec, ins_eta, encInts, setsA, *]) <;> rfl) (fun hc => ?_) (fun hc => ?_) <;> try simp only [seval, decide_eq_true_eq, decide_eq_false_iff_not, Bool.not_eq_true', Bool.not_eq_false', Bool.not_true, Bool.not_false] at hc) | (refine wpG_split (by (simp only [seval, ev1, ev2, ev3, ev4, encB_def, encS_def, sb, insA, encIns, ins_dec, ins_eta, encInts, setsA, *]) <;> rfl) (fun hc => ?_) (fun hc => ?_) <;> try simp only [seval, decide_eq_true_eq, decide_eq_false_iff_not, Bool.not_eq_true', Bool.not_eq_false', Bool.not_true, Bool.not_false] at hc) | (refine wqG_split (by (simp only [seval, ev1, ev2, ev3, ev4, encB_def, encS_def, sb, insA, encIns, ins_dec, ins_eta, encInts, setsA, *]) <;> rfl) (fun hc => ?_) (fun hc => ?_) <;> try simp only [seval, decide_eq_true_eq, decide_eq_false_iff_not, Bool.not_eq_true', Bool.not_eq_false', Bool.not_true, Bool.not_false] at hc) | refine ACalls.inst ?_ | refine CallP.inst rfl ?_)
      refine ⟨i + 1, hlt, by simp only; omega, Weak.at hcl ?_⟩
      simp only [seval, ev1, ev2, ev3, wk, List.forall_mem_cons, List.forall_mem_map, List.forall_mem_append, List.not_mem_nil, encB_def, encS_def, sb, insA, encIns, ins_dec, ins_eta, encInts, setsA, *]
    · have hie : i = U.length := by omega
      subst hie
      have e1 : ¬ (U.length : Int) < (U.length : Int) := by omega
      cases hm : movesB x.op with
      | true =>
        obtain ⟨m1, m2⟩ := l2.of hm
        subst m1
        repeat' (first | simp only [seval, ev1, ev2, ev3, ev4, encB_def, encS_def, sb, insA, encIns, ins_dec, ins_eta, encInts, setsA, *] | simp (disch := omega) only [if_pos, if_neg] | refine R.seq ?_ | refine LCB.text ?_ | refine LCB.quiet rfl ?_ | refine R.calls rfl ?_ | refine R.block ?_ | refine LCB.skip ?_ | refine LCB.exit ?_ | refine LCB.ret ?_ | (refine RetOk.val hcl ?_; simp only [seval, ev1, ev2, ev3, wk, List.forall_mem_cons, List.forall_mem_map, List.forall_mem_append, List.not_mem_nil, encB_def, encS_def, sb, insA, encIns, ins_dec, ins_eta, encInts, setsA, *]) | (refine Weak.at hcl ?_; simp only [seval, ev1, ev2, ev3, wk, List.forall_mem_cons, List.forall_mem_map, List.forall_mem_append, List.not_mem_nil, encB_def, encS_def, sb, insA, encIns, ins_dec, ins_eta, encInts, setsA, *]) | (refine LCB.cond (by (simp only [seval, ev1, ev2, ev3, ev4, encB_def, encS_def, sb, insA, encIns, ins_dec, ins_eta, encInts, setsA, *]) <;> rfl) (fun hc => ?_) (fun hc => ?_) <;> try simp only [seval, decide_eq_true_eq, decide_eq_false_iff_not, Bool.not_eq_true', Bool.not_eq_false', Bool.not_true, Bool.not_false] at hc) | (refine wpG_split (by (simp only [seval, ev1, ev2, ev3, ev4, encB_def, encS_def, sb, insA, encIns, ins_dec, ins_eta, encInts, setsA, *]) <;> rfl) (fun hc => ?_) (fun hc => ?_) <;> try simp only [seval, decide_eq_true_eq, decide_eq_false_iff_not, Bool.not_eq_true', Bool.not_eq_false', Bool.not_true, Bool.not_false] at hc) | (refine wqG_split (by (simp only [seval, ev1, ev2, ev3, ev4, encB_def, encS_def, sb, insA, encIns, ins_dec, ins_eta, encInts, setsA, *]) <;> rfl) (fun hc => ?_) (fun hc => ?_) <;> try simp only [seval, decide_eq_true_eq, decide_eq_false_iff_not, Bool.not_eq_true', Bool.not_eq_false', Bool.not_true, Bool.not_false] at hc) | refine ACalls.inst ?_ | refine CallP.inst rfl ?_)
      | false =>
        obtain ⟨m1, m2, m3⟩ := l3.of hm
        have f1 : 1 ≤ (U.length : Int) := by omega
        have f2 : (U.length : Int) ≤ 2 := by omega
        cases hs : setsB x.op with
        | true =>
          obtain ⟨m4, m5⟩ := m3 hs
          clear m3
          repeat' (first | simp only [seval, ev1, ev2, ev3, ev4, encB_def, encS_def, sb, insA, encIns, ins_dec, ins_eta, encInts, setsA, *] | simp (disch := omega) only [if_pos, if_neg] | refine R.seq ?_ | refine LCB.text ?_ | refine LCB.quiet rfl ?_ | refine R.calls rfl ?_ | refine R.block ?_ | refine LCB.skip ?_ | refine LCB.exit ?_ | refine LCB.ret ?_ | (refine RetOk.val hcl ?_; simp only [seval, ev1, ev2, ev3, wk, List.forall_mem_cons, List.forall_mem_map, List.forall_mem_append, List.not_mem_nil, encB_def, encS_def, sb, insA, encIns, ins_dec, ins_eta, encInts, setsA, *]) | (refine Weak.at hcl ?_; simp only [seval, ev1, ev2, ev3, wk, List.forall_mem_cons, List.forall_mem_map, List.forall_mem_append, List.not_mem_nil, encB_def, encS_def, sb, insA, encIns, ins_dec, ins_eta, encInts, setsA, *]) | (refine LCB.cond (by (simp only [seval, ev1, ev2, ev3, ev4, encB_def, encS_def, sb, insA, encIns, ins_dec, ins_eta, encInts, setsA, *]) <;> rfl) (fun hc => ?_) (fun hc => ?_) <;> try simp only [seval, decide_eq_true_eq, decide_eq_false_iff_not, Bool.not_eq_true', Bool.not_eq_false', Bool.not_true, Bool.not_false] at hc) | (refine wpG_split (by (simp only [seval, ev1, ev2, ev3, ev4, encB_def, encS_def, sb, insA, encIns, ins_dec, ins_eta, encInts, setsA, *]) <;> rfl) (fun hc => ?_) (fun hc => ?_) <;> try simp only [seval, decide_eq_true_eq, decide_eq_false_iff_not, Bool.not_eq_true', Bool.not_eq_false', Bool.not_true, Bool.not_false] at hc) | (refine wqG_split (by (simp only [seval, ev1, ev2, ev3, ev4, encB_def, encS_def, sb, insA, encIns, ins_dec, ins_eta, encInts, setsA, *]) <;> rfl) (fun hc => ?_) (fun hc => ?_) <;> try simp only [seval, decide_eq_true_eq, decide_eq_false_iff_not, Bool.not_eq_true', Bool.not_eq_false', Bool.not_true, Bool.not_false] at hc) | refine ACalls.inst ?_ | refine CallP.inst rfl ?_)
        | false =>
          repeat' (first | simp only [seval, ev1, ev2, ev3, ev4, encB_def, encS_def, sb, insA, encIns, ins_dec, ins_eta, encInts, setsA, *] | simp (disch := omega) only [if_pos, if_neg] | refine R.seq ?_ | refine LCB.text ?_ | refine LCB.quiet rfl ?_ | refine R.calls rfl ?_ | refine R.block ?_ | refine LCB.skip ?_ | refine LCB.exit ?_ | refine LCB.ret ?_ | (refine RetOk.val hcl ?_; simp only [seval, ev1, ev2, ev3, wk, List.forall_mem_cons, List.forall_mem_map, List.forall_mem_append, List.not_mem_nil, encB_def, encS_def, sb, insA, encIns, ins_dec, ins_eta, encInts, setsA, *]) | (refine Weak.at hcl ?_; simp only [seval, ev1, ev2, ev3, wk, List.forall_mem_cons, List.forall_mem_map, List.forall_mem_append, List.not_mem_nil, encB_def, encS_def, sb, insA, encIns, ins_dec, ins_eta, encInts, setsA, *]) | (refine LCB.cond (by (simp only [seval, ev1, ev2, ev3, ev4, encB_def, encS_def, sb, insA, encIns, ins_dec, ins_eta, encInts, setsA, *]) <;> rfl) (fun hc => ?_) (fun hc => ?_) <;> try simp only [seval, decide_eq_true_eq, decide_eq_false_iff_not, Bool.not_eq_true', Bool.not_eq_false', Bool.not_true, Bool.not_false] at hc) | (refine wpG_split (by (simp only [seval, ev1, ev2, ev3, ev4, encB_def, encS_def, sb, insA, encIns, ins_dec, ins_eta, encInts, setsA, *]) <;> rfl) (fun hc => ?_) (fun hc => ?_) <;> try simp only [seval, decide_eq_true_eq, decide_eq_false_iff_not, Bool.not_eq_true', Bool.not_eq_false', Bool.not_true, Bool.not_false] at hc) | (refine wqG_split (by (simp only [seval, ev1, ev2, ev3, ev4, encB_def, encS_def, sb, insA, encIns, ins_dec, ins_eta, encInts, setsA, *]) <;> rfl) (fun hc => ?_) (fun hc => ?_) <;> try simp only [seval, decide_eq_true_eq, decide_eq_false_iff_not, Bool.not_eq_true', Bool.not_eq_false', Bool.not_true, Bool.not_false] at hc) | refine ACalls.inst ?_ | refine CallP.inst rfl ?_)
  · repeat' (first | simp only [seval, ev1, ev2, ev3, ev4, encB_def, encS_def, sb, insA, encIns, ins_dec, ins_eta, encInts, setsA, *] | simp (disch := omega) only [if_pos, if_neg] | refine R.seq ?_ | refine LCB.text ?_ | refine LCB.quiet rfl ?_ | refine R.calls rfl ?_ | refine R.block ?_ | refine LCB.skip ?_ | refine LCB.exit ?_ | refine LCB.ret ?_ | (refine RetOk.val hcl ?_; simp only [seval, ev1, ev2, ev3, wk, List.forall_mem_cons, List.forall_mem_map, List.forall_mem_append, List.not_mem_nil, encB_def, encS_def, sb, insA, encIns, ins_dec, ins_eta, encInts, setsA, *]) | (refine Weak.at hcl ?_; simp only [seval, ev1, ev2, ev3, wk, List.forall_mem_cons, List.forall_mem_map, List.forall_mem_append, List.not_mem_nil, encB_def, encS_def, sb, insA, encIns, ins_dec, ins_eta, encInts, setsA, *]) | (refine LCB.cond (by (simp only [seval, ev1, ev2, ev3, ev4, encB_def, encS_def, sb, insA, encIns, ins_dec, ins_eta, encInts, setsA, *]) <;> rfl) (fun hc => ?_) (fun hc => ?_) <;> try simp only [seval, decide_eq_true_eq, decide_eq_false_iff_not, Bool.not_eq_true', Bool.not_eq_false', Bool.not_true, Bool.not_false] at hc) | (refine wpG_split (by (simp only [seval, ev1, ev2, ev3, ev4, encB_def, encS_def, sb, insA, encIns, ins_dec, ins_eta, encInts, setsA, *]) <;> rfl) (fun hc => ?_) (fun hc => ?_) <;> try simp only [seval, decide_eq_true_eq, decide_eq_false_iff_not, Bool.not_eq_true', Bool.not_eq_false', Bool.not_true, Bool.not_false] at hc) | (refine wqG_split (by (simp only [seval, ev1, ev2, ev3, ev4, encB_def, encS_def, sb, insA, encIns, ins_dec, ins_eta, encInts, setsA, *]) <;> rfl) (fun hc => ?_) (fun hc => ?_) <;> try simp only [seval, decide_eq_true_eq, decide_eq_false_iff_not, Bool.not_eq_true', Bool.not_eq_false', Bool.not_true, Bool.not_false] at hc) | refine ACalls.inst ?_ | refine CallP.inst rfl ?_)

theorem insPlaces_law : ∀ av, FitAs [.agg insSh] av → ACalls Tryd.prog 10 av [] fun r _ => r = .bool true := by
  rintro _ ⟨a, _, rfl, h1, rfl⟩
  obtain ⟨x, rfl, hx⟩ := h1.ins
  exact (InsPlaces_ok x).law

set_option maxRecDepth 100000 in
theorem insPlaces_lifted (os : Os) (started : os.Started) (H : Type) (enc : TypeId × Value → H) :
    ReturnsInHanded {} Tryd.checked os 10 .any (fun w args => (Rows.insPlacesSpec.pre enc Tryd.prog Tryd.f10 [] false w args ∧ laidMetH Tryd.prog laidL w) ∧ sizedMet enc Tryd.prog Tryd.f10 (OpenSpec.ofChange Rows.insPlacesSpec) false w args)
      (Rows.insPlacesSpec.post enc Tryd.prog Tryd.f10 false true false false) := by
  refine returnsInHanded_of_change_and (C := Tryd.checked) (X := fun w _ => laidMetH Tryd.prog laidL w) (fun _ _ _ hh h => h.of_heap hh) own_ok started (by kernel_rfl) Tryd.func10
    (ChangeSpec.witness_shaped (enc := enc) (C := Tryd.checked) (os := os) (X := fun w _ => laidMetH Tryd.prog laidL w) false (World.doorLaid Tryd.prog 400 os) #[.agg #[.int .i64 0, .int .i64 0, .int .i64 0, .int .i64 0, .int .i64 0, .int .i64 0]] 8 rfl (World.shaped_of_RefB (by kernel_rfl) (by kernel_rfl)) (by kernel_rfl) (by kernel_rfl) (by kernel_rfl) (door_met os _)) ?_
  intro W base args ds gs before hval0 hW _ _ hL _
  exact law_contract (base := base) laid_ok rfl (by kernel_rfl) (by kernel_rfl) (by kernel_rfl)
    (fun ds hl => by
      match ds, hl with
      | [d1], _ => rfl) (glob_of_laid hL) insPlaces_law hval0 hW

set_option maxRecDepth 100000 in
theorem insPlaces_row : Rows.InsPlacesSaid :=
  OpenClaim.holds_of_wide 10 Tryd.f10 rfl rfl rfl rfl rfl rfl rfl ⟨rfl, rfl, rfl, rfl, rfl⟩ rfl rfl rfl rfl rfl (by kernel_rfl) Tryd.func10 (by kernel_rfl)
    (of_decide_eq_true (by kernel_rfl)) (by unfold Func.isWrapper; first | (rw [if_pos (by decide +kernel)]; kernel_rfl) | (rw [if_neg (by decide +kernel)]; exact ⟨rfl, rfl⟩))
    (fun os started H enc _ => insPlaces_lifted os started H enc)

set_option maxRecDepth 100000 in
/-- **InsPlaces.** -/
theorem insPlaces_holds : Rows.InsPlacesCardSaid :=
  Claim7.holds_tied_plain_at .later [] [.data] true (true, "ea436687d0deeacd77ca67d6f208ce3885f48303042962dd21798ef3c4b6c9cf") false
    insPlaces_row (fun _ h => by cases h) (by kernel_rfl) (fun _ h => by cases h) insPlaces_row_tie rfl ⟨rfl, rfl⟩ (by kernel_rfl) rfl
    (fun f fn hf hfn => by
      obtain rfl : f = 10 := Option.some.inj ((show Tryd.prog.funcNamed "joinery/joinerylaw03.InsPlaces" = some 10 by kernel_rfl).symm.trans hf) |>.symm
      obtain rfl : fn = Tryd.f10 := (Option.some.inj (Tryd.func10.symm.trans hfn)).symm
      exact ⟨by kernel_rfl, fun j t ht => by
        have hall : (Tryd.f10.params.toList.all fun u => !Tryd.prog.wantsStandIn u) = true := by kernel_rfl
        have hm : t ∈ Tryd.f10.params.toList := by
          have := Array.mem_of_getElem? ht
          simpa using this
        exact (show Tryd.prog.wantsStandIn t = false by simpa using List.all_eq_true.1 hall t hm)⟩)
    (by kernel_rfl)
end Go.Proofs.YtegelpmmnddmnaaDoor
