/-
  AsmBehind, of every function and instruction: a line more, behind a function that is right, is no end to it, but a Ret's or a Jump's to a place of it.
-/
import Derived.Test.YtoiceinjademgaaDoorE7
import Derived.Test.YtoiceinjademgaaDoorCD
namespace Go.Proofs.YtoiceinjademgaaDoor
open Go.ChangeShapes Go.WideShapes Go.ChangeAt Go.RowKit
set_option linter.unusedVariables false
set_option linter.unusedSimpArgs false
def jumpTo (x : Ins) : Ins := ⟨16, 0, 0, 0, 0, x.to⟩
theorem jumpTo_eq (x : Ins) : jumpTo x = ⟨16, 0, 0, 0, 0, x.to⟩ := rfl
theorem chk_jump {x : Ins} {n : Int} (ho : x.op = 16) : chk x n = 0 ↔ x = jumpTo x ∧ 0 ≤ x.to ∧ x.to < n := by
  rw [chk_same]
  obtain ⟨op, d, a, b, m, to⟩ := x
  simp only at ho
  subst ho
  have e : onlyR ⟨16, d, a, b, m, to⟩ = ⟨16, 0, 0, 0, 0, to⟩ := rfl
  unfold chkR badFormR badPlaceR farOff jumpTo
  rw [e]
  simp only [Ins.mk.injEq]
  by_cases h1 : d = 0 ∧ a = 0 ∧ b = 0 ∧ m = 0
  · obtain ⟨rfl, rfl, rfl, rfl⟩ := h1
    simp [inR]
  · have h2 : (!decide (0 = d ∧ 0 = a ∧ 0 = b ∧ 0 = m)) = true := by simp; omega
    constructor
    · intro h
      exfalso
      revert h
      simp only [bne, BEq.beq, Ins.mk.injEq]
      simp
      rw [if_pos (by omega)]
      simp
    · rintro ⟨h, _⟩
      exact absurd (by simpa using h) h1
theorem chk_ret {x : Ins} {n m : Int} (ho : x.op = 18) : chk x n = chk x m := by
  rw [chk_same, chk_same]
  unfold chkR
  simp [ho]
theorem chk_all_one {x : Ins} {n : Int} : (∀ y ∈ [x], chk y n = 0) = (chk x n = 0) := by simp
theorem chk_all_snoc {f : List Ins} {x : Ins} {n : Int} : (∀ y ∈ f ++ [x], chk y n = 0) = ((∀ y ∈ f, chk y n = 0) ∧ chk x n = 0) := by
  apply propext
  constructor
  · intro h
    exact ⟨fun y hy => h y (by simp [hy]), h x (by simp)⟩
  · rintro ⟨h1, h2⟩ y hy
    rcases List.mem_append.1 hy with h | h
    · exact h1 y h
    · rw [List.mem_singleton.1 h]; exact h2
theorem behind_law {f : List Ins} {x : Ins} (h : fnOk f = true) (hl : f.length ≤ 199) : fnOk (f ++ [x]) = (fnOk [x] || (decide (x.op = 16) && (decide (x = jumpTo x) && (decide (0 ≤ x.to) && decide (x.to ≤ (f.length : Int)))))) := by
  obtain ⟨h1, h2, h3, h4⟩ := fnOk_iff.1 h
  have e1 : lastOp (f ++ [x]) = x.op := by simp [lastOp, List.getD]
  have e2 : lastOp [x] = x.op := rfl
  rw [Bool.eq_iff_iff, fnOk_iff]
  simp only [Bool.or_eq_true, Bool.and_eq_true, decide_eq_true_eq, fnOk_iff, e1, e2, List.length_append, List.length_cons, List.length_nil]
  by_cases o1 : x.op = 16
  · rw [chk_all_one, chk_all_snoc, chk_jump o1, chk_jump o1]
    constructor
    · rintro ⟨_, _, ⟨_, h5, h6, h7⟩, _⟩
      exact .inr ⟨o1, h5, h6, by omega⟩
    · rintro (⟨_, _, ⟨h5, h6, h7⟩, _⟩ | ⟨_, h5, h6, h7⟩)
      · exact ⟨by omega, by omega, ⟨fun y hy => chk_more (by omega) (h3 y hy), h5, h6, by omega⟩, .inl o1⟩
      · exact ⟨by omega, by omega, ⟨fun y hy => chk_more (by omega) (h3 y hy), h5, h6, by omega⟩, .inl o1⟩
  · by_cases o2 : x.op = 18
    · rw [chk_all_one, chk_all_snoc, chk_ret (m := ((f.length + (0 + 1) : Nat) : Int)) (n := ((0 + 1 : Nat) : Int)) o2]
      constructor
      · rintro ⟨_, _, ⟨_, h5⟩, _⟩
        exact .inl ⟨by omega, by omega, h5, .inr o2⟩
      · rintro (⟨_, _, h5, _⟩ | ⟨h5, _⟩)
        · exact ⟨by omega, by omega, ⟨fun y hy => chk_more (by omega) (h3 y hy), h5⟩, .inr o2⟩
        · exact absurd h5 o1
    · constructor
      · rintro ⟨_, _, _, h5⟩
        omega
      · rintro (⟨_, _, _, h5⟩ | ⟨h5, _⟩) <;> omega
set_option maxHeartbeats 4000000 in
theorem AsmBehind_ok (f : List Ins) (x : Ins) : Pure Tryd.prog 9 [encFn f, insA x] (.bool true) := by
  intro H
  refine ACalls.go joinerylaw04_AsmBehind.low (by simp) fun hcl => ?_
  have h1 := ref04_Right_ok f
  have h2 := ref04_Right_ok [x]
  have h3 := asm_Right_ok (f ++ [x])
  rw [insA_eq]
  unfold encFn at *
  rw [List.map_append] at h3
  by_cases hl : (199 : Int) < (f.length : Int)
  · replace h1 := Hold.mk h1
    replace h2 := Hold.mk h2
    replace h3 := Hold.mk h3
    repeat' (first | simp only [seval, ev1, ev2, ev3, ev4, beq_self_eq_true, encB_def, encN_def, sb, insA, encIns, ins_eta, jumpTo_eq, List.map_nil, List.length_nil, beq_self_eq_true, wpT_hit, wpT_miss, wpT_skip, *] | simp (disch := omega) only [if_pos, if_neg] | refine R.seq ?_ | refine LCB.text ?_ | refine LCB.quiet rfl ?_ | refine R.calls rfl ?_ | refine R.block ?_ | refine LCB.skip ?_ | refine LCB.exit ?_ | refine LCB.ret ?_ | (refine RetOk.val hcl ?_; simp only [seval, ev1, ev2, ev3, wk, List.forall_mem_cons, List.forall_mem_map, List.forall_mem_append, List.not_mem_nil, encB_def, encN_def, sb, insA, encIns, ins_eta, jumpTo_eq, List.map_nil, List.length_nil, beq_self_eq_true, wpT_hit, wpT_miss, wpT_skip, *]) | (refine Weak.at hcl ?_; simp only [seval, ev1, ev2, ev3, wk, List.forall_mem_cons, List.forall_mem_map, List.forall_mem_append, List.not_mem_nil, encB_def, encN_def, sb, insA, encIns, ins_eta, jumpTo_eq, List.map_nil, List.length_nil, beq_self_eq_true, wpT_hit, wpT_miss, wpT_skip, *]) | (refine LCB.cond (by (simp only [seval, ev1, ev2, ev3, ev4, beq_self_eq_true, encB_def, encN_def, sb, insA, encIns, ins_eta, jumpTo_eq, List.map_nil, List.length_nil, beq_self_eq_true, wpT_hit, wpT_miss, wpT_skip, *]) <;> rfl) (fun hc => ?_) (fun hc => ?_) <;> try simp only [seval, decide_eq_true_eq, decide_eq_false_iff_not, Bool.not_eq_true', Bool.not_eq_false', Bool.not_true, Bool.not_false] at hc) | (refine wpG_split (by (simp only [seval, ev1, ev2, ev3, ev4, beq_self_eq_true, encB_def, encN_def, sb, insA, encIns, ins_eta, jumpTo_eq, List.map_nil, List.length_nil, beq_self_eq_true, wpT_hit, wpT_miss, wpT_skip, *]) <;> rfl) (fun hc => ?_) (fun hc => ?_) <;> try simp only [seval, decide_eq_true_eq, decide_eq_false_iff_not, Bool.not_eq_true', Bool.not_eq_false', Bool.not_true, Bool.not_false] at hc) | (refine wqG_split (by (simp only [seval, ev1, ev2, ev3, ev4, beq_self_eq_true, encB_def, encN_def, sb, insA, encIns, ins_eta, jumpTo_eq, List.map_nil, List.length_nil, beq_self_eq_true, wpT_hit, wpT_miss, wpT_skip, *]) <;> rfl) (fun hc => ?_) (fun hc => ?_) <;> try simp only [seval, decide_eq_true_eq, decide_eq_false_iff_not, Bool.not_eq_true', Bool.not_eq_false', Bool.not_true, Bool.not_false] at hc) | refine ACalls.inst ?_ | refine CallP.inst rfl ?_)
  by_cases hk : fnOk f = true
  · have hb := behind_law (x := x) hk (by omega)
    rw [hk] at h1
    replace h1 := Hold.mk h1
    replace h2 := Hold.mk h2
    replace h3 := Hold.mk h3
    replace hb := Hold.mk hb
    replace hk := Hold.mk hk
    have rk : rowsOk 6 (f.map encIns) = true := rk_map fun x _ => ⟨rfl, rfl⟩
    have b1 : (f.length : Int) * 48 ≤ 140737488355328 := by omega
    have b2 : f.length * 48 ≤ 140737488355328 := by omega
    have b3 : f.length ≤ 9223372036854775807 := by omega
    have b4 : (f.length + 1) * 48 ≤ 140737488355328 := by omega
    have b5 : f.length + 1 ≤ 9223372036854775807 := by omega
    have b6 : (1 + f.length) * 48 ≤ 140737488355328 := by omega
    (refine R.seq ?_; refine LCB.text ?_; repeat' (first | simp only [seval, ev1, ev2, ev3, ev4, beq_self_eq_true, encB_def, encN_def, sb, insA, encIns, ins_eta, jumpTo_eq, List.map_nil, List.length_nil, beq_self_eq_true, wpT_hit, wpT_miss, wpT_skip, *] | simp (disch := omega) only [if_pos, if_neg]))
    refine R.seq ?_
    repeat' (first | simp only [seval, ev1, ev2, ev3, ev4, beq_self_eq_true, encB_def, encN_def, sb, insA, encIns, ins_eta, jumpTo_eq, List.map_nil, List.length_nil, beq_self_eq_true, wpT_hit, wpT_miss, wpT_skip, *] | simp (disch := omega) only [if_pos, if_neg] | refine R.seq ?_ | refine LCB.text ?_ | refine LCB.quiet rfl ?_ | refine R.calls rfl ?_ | refine R.block ?_ | refine LCB.skip ?_ | refine LCB.exit ?_ | refine LCB.ret ?_ | (refine RetOk.val hcl ?_; simp only [seval, ev1, ev2, ev3, wk, List.forall_mem_cons, List.forall_mem_map, List.forall_mem_append, List.not_mem_nil, encB_def, encN_def, sb, insA, encIns, ins_eta, jumpTo_eq, List.map_nil, List.length_nil, beq_self_eq_true, wpT_hit, wpT_miss, wpT_skip, *]) | (refine Weak.at hcl ?_; simp only [seval, ev1, ev2, ev3, wk, List.forall_mem_cons, List.forall_mem_map, List.forall_mem_append, List.not_mem_nil, encB_def, encN_def, sb, insA, encIns, ins_eta, jumpTo_eq, List.map_nil, List.length_nil, beq_self_eq_true, wpT_hit, wpT_miss, wpT_skip, *]) | (refine LCB.cond (by (simp only [seval, ev1, ev2, ev3, ev4, beq_self_eq_true, encB_def, encN_def, sb, insA, encIns, ins_eta, jumpTo_eq, List.map_nil, List.length_nil, beq_self_eq_true, wpT_hit, wpT_miss, wpT_skip, *]) <;> rfl) (fun hc => ?_) (fun hc => ?_) <;> try simp only [seval, decide_eq_true_eq, decide_eq_false_iff_not, Bool.not_eq_true', Bool.not_eq_false', Bool.not_true, Bool.not_false] at hc) | (refine wpG_split (by (simp only [seval, ev1, ev2, ev3, ev4, beq_self_eq_true, encB_def, encN_def, sb, insA, encIns, ins_eta, jumpTo_eq, List.map_nil, List.length_nil, beq_self_eq_true, wpT_hit, wpT_miss, wpT_skip, *]) <;> rfl) (fun hc => ?_) (fun hc => ?_) <;> try simp only [seval, decide_eq_true_eq, decide_eq_false_iff_not, Bool.not_eq_true', Bool.not_eq_false', Bool.not_true, Bool.not_false] at hc) | (refine wqG_split (by (simp only [seval, ev1, ev2, ev3, ev4, beq_self_eq_true, encB_def, encN_def, sb, insA, encIns, ins_eta, jumpTo_eq, List.map_nil, List.length_nil, beq_self_eq_true, wpT_hit, wpT_miss, wpT_skip, *]) <;> rfl) (fun hc => ?_) (fun hc => ?_) <;> try simp only [seval, decide_eq_true_eq, decide_eq_false_iff_not, Bool.not_eq_true', Bool.not_eq_false', Bool.not_true, Bool.not_false] at hc) | refine ACalls.inst ?_ | refine CallP.inst rfl ?_)
    first | refine ACalls.pure (h1.of) ?_ | refine CallP.pure (h1.of) rfl ?_
    repeat' (first | simp only [seval, ev1, ev2, ev3, ev4, beq_self_eq_true, encB_def, encN_def, sb, insA, encIns, ins_eta, jumpTo_eq, List.map_nil, List.length_nil, beq_self_eq_true, wpT_hit, wpT_miss, wpT_skip, *] | simp (disch := omega) only [if_pos, if_neg] | refine R.seq ?_ | refine LCB.text ?_ | refine LCB.quiet rfl ?_ | refine R.calls rfl ?_ | refine R.block ?_ | refine LCB.skip ?_ | refine LCB.exit ?_ | refine LCB.ret ?_ | (refine RetOk.val hcl ?_; simp only [seval, ev1, ev2, ev3, wk, List.forall_mem_cons, List.forall_mem_map, List.forall_mem_append, List.not_mem_nil, encB_def, encN_def, sb, insA, encIns, ins_eta, jumpTo_eq, List.map_nil, List.length_nil, beq_self_eq_true, wpT_hit, wpT_miss, wpT_skip, *]) | (refine Weak.at hcl ?_; simp only [seval, ev1, ev2, ev3, wk, List.forall_mem_cons, List.forall_mem_map, List.forall_mem_append, List.not_mem_nil, encB_def, encN_def, sb, insA, encIns, ins_eta, jumpTo_eq, List.map_nil, List.length_nil, beq_self_eq_true, wpT_hit, wpT_miss, wpT_skip, *]) | (refine LCB.cond (by (simp only [seval, ev1, ev2, ev3, ev4, beq_self_eq_true, encB_def, encN_def, sb, insA, encIns, ins_eta, jumpTo_eq, List.map_nil, List.length_nil, beq_self_eq_true, wpT_hit, wpT_miss, wpT_skip, *]) <;> rfl) (fun hc => ?_) (fun hc => ?_) <;> try simp only [seval, decide_eq_true_eq, decide_eq_false_iff_not, Bool.not_eq_true', Bool.not_eq_false', Bool.not_true, Bool.not_false] at hc) | (refine wpG_split (by (simp only [seval, ev1, ev2, ev3, ev4, beq_self_eq_true, encB_def, encN_def, sb, insA, encIns, ins_eta, jumpTo_eq, List.map_nil, List.length_nil, beq_self_eq_true, wpT_hit, wpT_miss, wpT_skip, *]) <;> rfl) (fun hc => ?_) (fun hc => ?_) <;> try simp only [seval, decide_eq_true_eq, decide_eq_false_iff_not, Bool.not_eq_true', Bool.not_eq_false', Bool.not_true, Bool.not_false] at hc) | (refine wqG_split (by (simp only [seval, ev1, ev2, ev3, ev4, beq_self_eq_true, encB_def, encN_def, sb, insA, encIns, ins_eta, jumpTo_eq, List.map_nil, List.length_nil, beq_self_eq_true, wpT_hit, wpT_miss, wpT_skip, *]) <;> rfl) (fun hc => ?_) (fun hc => ?_) <;> try simp only [seval, decide_eq_true_eq, decide_eq_false_iff_not, Bool.not_eq_true', Bool.not_eq_false', Bool.not_true, Bool.not_false] at hc) | refine ACalls.inst ?_ | refine CallP.inst rfl ?_)
    refine R.cutS [(0, .list (f.map encIns)), (3, .ptr H.length 1 0 0), (5, .list ((f ++ [x]).map encIns))] (H ++ [.vec 6 [encIns x]]) ?_ ?_
    · refine LCB.any ?_
      repeat' (first | (refine Weak.at hcl ?_; (simp only [seval, ev1, ev2, ev3, wk, List.forall_mem_cons, List.forall_mem_map, List.forall_mem_append, List.not_mem_nil, encB_def, encN_def, sb, insA, encIns, ins_eta, jumpTo_eq, List.map_nil, List.length_nil, beq_self_eq_true, wpT_hit, wpT_miss, wpT_skip, *]) <;> omega) | constructor | simp only [wpP, wpPs, wpT_none, pureStep, seval, ev1, ev2, ev3, ev4, encB_def, encN_def, sb, insA, encIns, ins_eta, jumpTo_eq, List.map_nil, List.length_nil, beq_self_eq_true, wpT_hit, wpT_miss, wpT_skip, *])
    · refine R.cut [(4, .bool true)] (H ++ []) ?_ ?_
      · have key : ∀ a b c d e : Bool, fnOk [x] = a → decide (x.op = 16) = b → (b = true → (decide (x.d = 0) && (decide (x.a = 0) && (decide (x.b = 0) && decide (x.n = 0)))) = c) → decide (0 ≤ x.to) = d → decide (x.to ≤ (f.length : Int)) = e → fnOk (f ++ [x]) = (a || (b && (c && (d && e)))) := by
          intro a b c d e g1 g2 g3 g4 g5
          rw [hb.of, g1, g2, g4, g5]
          cases b
          · rfl
          · rw [← g3 rfl]
            congr 3
            rw [Bool.eq_iff_iff]
            have o1 : x.op = 16 := by simpa using g2
            obtain ⟨op, d', a', b', m, to⟩ := x
            simp only at o1
            subst o1
            simp [jumpTo]
        replace h3 := h3.of
        replace h2 := h2.of
        clear hb hl hk rk b1 b2 b3 b4 b5 b6 hc
        cases ha : fnOk [x]
        · by_cases o1 : x.op = 16
          · have o1' : decide (x.op = 16) = true := by simpa using o1
            obtain ⟨op, d, a, b, m, to⟩ := x
            simp only at o1
            subst o1
            simp only at key o1'
            cases hcc : (decide (d = 0) && (decide (a = 0) && (decide (b = 0) && decide (m = 0))))
            · rw [key _ _ _ _ _ ha o1' (fun _ => hcc) rfl rfl] at h3
              simp only [Bool.false_or, Bool.true_or, Bool.and_self, Bool.false_and, Bool.true_and, Bool.and_false] at h3
              rw [ha] at h2
              replace h2 := Hold.mk h2
              replace h3 := Hold.mk h3
              replace ha := Hold.mk ha
              replace o1' := Hold.mk o1'
              replace key := Hold.mk key
              refine LCB.any ?_
              repeat' (first | (refine Weak.at hcl ?_; (simp only [seval, ev1, ev2, ev3, wk, List.forall_mem_cons, List.forall_mem_map, List.forall_mem_append, List.not_mem_nil, encB_def, encN_def, sb, insA, encIns, ins_eta, jumpTo_eq, List.map_nil, List.length_nil, beq_self_eq_true, wpT_hit, wpT_miss, wpT_skip, *]) <;> omega) | refine ACalls.pure h3.of ?_ | refine ACalls.inst ?_ | (refine ACalls.loseAt [.vec 6 [encIns ⟨16, d, a, b, m, to⟩], .gone] [.list [encIns ⟨16, d, a, b, m, to⟩]] ?_ (ACalls.pure h2.of ?_); (· simp only [seval, ev1, ev2, ev3, wk, lk, List.forall_mem_cons, List.forall_mem_map, List.forall_mem_append, List.not_mem_nil, encB_def, encN_def, sb, insA, encIns, ins_eta, jumpTo_eq, List.map_nil, List.length_nil, beq_self_eq_true, wpT_hit, wpT_miss, wpT_skip, *])) | (with_reducible refine And.intro ?_ ?_) | exact True.intro | simp only [wpP, wpPs, wpT_none, pureStep, seval, ev1, ev2, ev3, ev4, encB_def, encN_def, sb, insA, encIns, ins_eta, jumpTo_eq, List.map_nil, List.length_nil, beq_self_eq_true, wpT_hit, wpT_miss, wpT_skip, *])
            · by_cases o3 : 0 ≤ to
              · by_cases o4 : to ≤ (f.length : Int)
                · rw [key _ _ _ _ _ ha o1' (fun _ => hcc) (decide_eq_true o3) (decide_eq_true o4)] at h3
                  simp only [Bool.false_or, Bool.true_or, Bool.and_self, Bool.false_and, Bool.true_and, Bool.and_false] at h3
                  rw [ha] at h2
                  replace h2 := Hold.mk h2
                  replace h3 := Hold.mk h3
                  replace ha := Hold.mk ha
                  replace o1' := Hold.mk o1'
                  replace key := Hold.mk key
                  refine LCB.any ?_
                  repeat' (first | (refine Weak.at hcl ?_; (simp only [seval, ev1, ev2, ev3, wk, List.forall_mem_cons, List.forall_mem_map, List.forall_mem_append, List.not_mem_nil, encB_def, encN_def, sb, insA, encIns, ins_eta, jumpTo_eq, List.map_nil, List.length_nil, beq_self_eq_true, wpT_hit, wpT_miss, wpT_skip, *]) <;> omega) | refine ACalls.pure h3.of ?_ | refine ACalls.inst ?_ | (refine ACalls.loseAt [.vec 6 [encIns ⟨16, d, a, b, m, to⟩], .gone] [.list [encIns ⟨16, d, a, b, m, to⟩]] ?_ (ACalls.pure h2.of ?_); (· simp only [seval, ev1, ev2, ev3, wk, lk, List.forall_mem_cons, List.forall_mem_map, List.forall_mem_append, List.not_mem_nil, encB_def, encN_def, sb, insA, encIns, ins_eta, jumpTo_eq, List.map_nil, List.length_nil, beq_self_eq_true, wpT_hit, wpT_miss, wpT_skip, *])) | (with_reducible refine And.intro ?_ ?_) | exact True.intro | simp only [wpP, wpPs, wpT_none, pureStep, seval, ev1, ev2, ev3, ev4, encB_def, encN_def, sb, insA, encIns, ins_eta, jumpTo_eq, List.map_nil, List.length_nil, beq_self_eq_true, wpT_hit, wpT_miss, wpT_skip, *])
                · rw [key _ _ _ _ _ ha o1' (fun _ => hcc) (decide_eq_true o3) (decide_eq_false o4)] at h3
                  simp only [Bool.false_or, Bool.true_or, Bool.and_self, Bool.false_and, Bool.true_and, Bool.and_false] at h3
                  rw [ha] at h2
                  replace h2 := Hold.mk h2
                  replace h3 := Hold.mk h3
                  replace ha := Hold.mk ha
                  replace o1' := Hold.mk o1'
                  replace key := Hold.mk key
                  refine LCB.any ?_
                  repeat' (first | (refine Weak.at hcl ?_; (simp only [seval, ev1, ev2, ev3, wk, List.forall_mem_cons, List.forall_mem_map, List.forall_mem_append, List.not_mem_nil, encB_def, encN_def, sb, insA, encIns, ins_eta, jumpTo_eq, List.map_nil, List.length_nil, beq_self_eq_true, wpT_hit, wpT_miss, wpT_skip, *]) <;> omega) | refine ACalls.pure h3.of ?_ | refine ACalls.inst ?_ | (refine ACalls.loseAt [.vec 6 [encIns ⟨16, d, a, b, m, to⟩], .gone] [.list [encIns ⟨16, d, a, b, m, to⟩]] ?_ (ACalls.pure h2.of ?_); (· simp only [seval, ev1, ev2, ev3, wk, lk, List.forall_mem_cons, List.forall_mem_map, List.forall_mem_append, List.not_mem_nil, encB_def, encN_def, sb, insA, encIns, ins_eta, jumpTo_eq, List.map_nil, List.length_nil, beq_self_eq_true, wpT_hit, wpT_miss, wpT_skip, *])) | (with_reducible refine And.intro ?_ ?_) | exact True.intro | simp only [wpP, wpPs, wpT_none, pureStep, seval, ev1, ev2, ev3, ev4, encB_def, encN_def, sb, insA, encIns, ins_eta, jumpTo_eq, List.map_nil, List.length_nil, beq_self_eq_true, wpT_hit, wpT_miss, wpT_skip, *])
              · rw [key _ _ _ _ _ ha o1' (fun _ => hcc) (decide_eq_false o3) rfl] at h3
                simp only [Bool.false_or, Bool.true_or, Bool.and_self, Bool.false_and, Bool.true_and, Bool.and_false] at h3
                rw [ha] at h2
                replace h2 := Hold.mk h2
                replace h3 := Hold.mk h3
                replace ha := Hold.mk ha
                replace o1' := Hold.mk o1'
                replace key := Hold.mk key
                refine LCB.any ?_
                repeat' (first | (refine Weak.at hcl ?_; (simp only [seval, ev1, ev2, ev3, wk, List.forall_mem_cons, List.forall_mem_map, List.forall_mem_append, List.not_mem_nil, encB_def, encN_def, sb, insA, encIns, ins_eta, jumpTo_eq, List.map_nil, List.length_nil, beq_self_eq_true, wpT_hit, wpT_miss, wpT_skip, *]) <;> omega) | refine ACalls.pure h3.of ?_ | refine ACalls.inst ?_ | (refine ACalls.loseAt [.vec 6 [encIns ⟨16, d, a, b, m, to⟩], .gone] [.list [encIns ⟨16, d, a, b, m, to⟩]] ?_ (ACalls.pure h2.of ?_); (· simp only [seval, ev1, ev2, ev3, wk, lk, List.forall_mem_cons, List.forall_mem_map, List.forall_mem_append, List.not_mem_nil, encB_def, encN_def, sb, insA, encIns, ins_eta, jumpTo_eq, List.map_nil, List.length_nil, beq_self_eq_true, wpT_hit, wpT_miss, wpT_skip, *])) | (with_reducible refine And.intro ?_ ?_) | exact True.intro | simp only [wpP, wpPs, wpT_none, pureStep, seval, ev1, ev2, ev3, ev4, encB_def, encN_def, sb, insA, encIns, ins_eta, jumpTo_eq, List.map_nil, List.length_nil, beq_self_eq_true, wpT_hit, wpT_miss, wpT_skip, *])
          · have o1' : decide (x.op = 16) = false := by simpa using o1
            rw [key _ _ false _ _ ha o1' (fun h => by cases h) rfl rfl] at h3
            simp only [Bool.false_or, Bool.true_or, Bool.and_self, Bool.false_and, Bool.true_and, Bool.and_false] at h3
            rw [ha] at h2
            replace h2 := Hold.mk h2
            replace h3 := Hold.mk h3
            replace ha := Hold.mk ha
            replace o1' := Hold.mk o1'
            replace key := Hold.mk key
            refine LCB.any ?_
            repeat' (first | (refine Weak.at hcl ?_; (simp only [seval, ev1, ev2, ev3, wk, List.forall_mem_cons, List.forall_mem_map, List.forall_mem_append, List.not_mem_nil, encB_def, encN_def, sb, insA, encIns, ins_eta, jumpTo_eq, List.map_nil, List.length_nil, beq_self_eq_true, wpT_hit, wpT_miss, wpT_skip, *]) <;> omega) | refine ACalls.pure h3.of ?_ | refine ACalls.inst ?_ | (refine ACalls.loseAt [.vec 6 [encIns x], .gone] [.list [encIns x]] ?_ (ACalls.pure h2.of ?_); (· simp only [seval, ev1, ev2, ev3, wk, lk, List.forall_mem_cons, List.forall_mem_map, List.forall_mem_append, List.not_mem_nil, encB_def, encN_def, sb, insA, encIns, ins_eta, jumpTo_eq, List.map_nil, List.length_nil, beq_self_eq_true, wpT_hit, wpT_miss, wpT_skip, *])) | (with_reducible refine And.intro ?_ ?_) | exact True.intro | simp only [wpP, wpPs, wpT_none, pureStep, seval, ev1, ev2, ev3, ev4, encB_def, encN_def, sb, insA, encIns, ins_eta, jumpTo_eq, List.map_nil, List.length_nil, beq_self_eq_true, wpT_hit, wpT_miss, wpT_skip, *])
        · rw [key _ _ (decide (x.d = 0) && (decide (x.a = 0) && (decide (x.b = 0) && decide (x.n = 0)))) _ _ ha rfl (fun _ => rfl) rfl rfl] at h3
          simp only [Bool.false_or, Bool.true_or, Bool.and_self, Bool.false_and, Bool.true_and, Bool.and_false] at h3
          rw [ha] at h2
          replace h2 := Hold.mk h2
          replace h3 := Hold.mk h3
          replace ha := Hold.mk ha
          replace key := Hold.mk key
          refine LCB.any ?_
          repeat' (first | (refine Weak.at hcl ?_; (simp only [seval, ev1, ev2, ev3, wk, List.forall_mem_cons, List.forall_mem_map, List.forall_mem_append, List.not_mem_nil, encB_def, encN_def, sb, insA, encIns, ins_eta, jumpTo_eq, List.map_nil, List.length_nil, beq_self_eq_true, wpT_hit, wpT_miss, wpT_skip, *]) <;> omega) | refine ACalls.pure h3.of ?_ | refine ACalls.inst ?_ | (refine ACalls.loseAt [.vec 6 [encIns x], .gone] [.list [encIns x]] ?_ (ACalls.pure h2.of ?_); (· simp only [seval, ev1, ev2, ev3, wk, lk, List.forall_mem_cons, List.forall_mem_map, List.forall_mem_append, List.not_mem_nil, encB_def, encN_def, sb, insA, encIns, ins_eta, jumpTo_eq, List.map_nil, List.length_nil, beq_self_eq_true, wpT_hit, wpT_miss, wpT_skip, *])) | (with_reducible refine And.intro ?_ ?_) | exact True.intro | simp only [wpP, wpPs, wpT_none, pureStep, seval, ev1, ev2, ev3, ev4, encB_def, encN_def, sb, insA, encIns, ins_eta, jumpTo_eq, List.map_nil, List.length_nil, beq_self_eq_true, wpT_hit, wpT_miss, wpT_skip, *])
      repeat' (first | simp only [seval, ev1, ev2, ev3, ev4, beq_self_eq_true, encB_def, encN_def, sb, insA, encIns, ins_eta, jumpTo_eq, List.map_nil, List.length_nil, beq_self_eq_true, wpT_hit, wpT_miss, wpT_skip, *] | simp (disch := omega) only [if_pos, if_neg] | refine R.seq ?_ | refine LCB.text ?_ | refine LCB.quiet rfl ?_ | refine R.calls rfl ?_ | refine R.block ?_ | refine LCB.skip ?_ | refine LCB.exit ?_ | refine LCB.ret ?_ | (refine RetOk.val hcl ?_; simp only [seval, ev1, ev2, ev3, wk, List.forall_mem_cons, List.forall_mem_map, List.forall_mem_append, List.not_mem_nil, encB_def, encN_def, sb, insA, encIns, ins_eta, jumpTo_eq, List.map_nil, List.length_nil, beq_self_eq_true, wpT_hit, wpT_miss, wpT_skip, *]) | (refine Weak.at hcl ?_; simp only [seval, ev1, ev2, ev3, wk, List.forall_mem_cons, List.forall_mem_map, List.forall_mem_append, List.not_mem_nil, encB_def, encN_def, sb, insA, encIns, ins_eta, jumpTo_eq, List.map_nil, List.length_nil, beq_self_eq_true, wpT_hit, wpT_miss, wpT_skip, *]) | (refine LCB.cond (by (simp only [seval, ev1, ev2, ev3, ev4, beq_self_eq_true, encB_def, encN_def, sb, insA, encIns, ins_eta, jumpTo_eq, List.map_nil, List.length_nil, beq_self_eq_true, wpT_hit, wpT_miss, wpT_skip, *]) <;> rfl) (fun hc => ?_) (fun hc => ?_) <;> try simp only [seval, decide_eq_true_eq, decide_eq_false_iff_not, Bool.not_eq_true', Bool.not_eq_false', Bool.not_true, Bool.not_false] at hc) | (refine wpG_split (by (simp only [seval, ev1, ev2, ev3, ev4, beq_self_eq_true, encB_def, encN_def, sb, insA, encIns, ins_eta, jumpTo_eq, List.map_nil, List.length_nil, beq_self_eq_true, wpT_hit, wpT_miss, wpT_skip, *]) <;> rfl) (fun hc => ?_) (fun hc => ?_) <;> try simp only [seval, decide_eq_true_eq, decide_eq_false_iff_not, Bool.not_eq_true', Bool.not_eq_false', Bool.not_true, Bool.not_false] at hc) | (refine wqG_split (by (simp only [seval, ev1, ev2, ev3, ev4, beq_self_eq_true, encB_def, encN_def, sb, insA, encIns, ins_eta, jumpTo_eq, List.map_nil, List.length_nil, beq_self_eq_true, wpT_hit, wpT_miss, wpT_skip, *]) <;> rfl) (fun hc => ?_) (fun hc => ?_) <;> try simp only [seval, decide_eq_true_eq, decide_eq_false_iff_not, Bool.not_eq_true', Bool.not_eq_false', Bool.not_true, Bool.not_false] at hc) | refine ACalls.inst ?_ | refine CallP.inst rfl ?_)
  · replace hk : fnOk f = false := by simpa using hk
    rw [hk] at h1
    replace h1 := Hold.mk h1
    replace h2 := Hold.mk h2
    replace h3 := Hold.mk h3
    repeat' (first | simp only [seval, ev1, ev2, ev3, ev4, beq_self_eq_true, encB_def, encN_def, sb, insA, encIns, ins_eta, jumpTo_eq, List.map_nil, List.length_nil, beq_self_eq_true, wpT_hit, wpT_miss, wpT_skip, *] | simp (disch := omega) only [if_pos, if_neg] | refine R.seq ?_ | refine LCB.text ?_ | refine LCB.quiet rfl ?_ | refine R.calls rfl ?_ | refine R.block ?_ | refine LCB.skip ?_ | refine LCB.exit ?_ | refine LCB.ret ?_ | (refine RetOk.val hcl ?_; simp only [seval, ev1, ev2, ev3, wk, List.forall_mem_cons, List.forall_mem_map, List.forall_mem_append, List.not_mem_nil, encB_def, encN_def, sb, insA, encIns, ins_eta, jumpTo_eq, List.map_nil, List.length_nil, beq_self_eq_true, wpT_hit, wpT_miss, wpT_skip, *]) | (refine Weak.at hcl ?_; simp only [seval, ev1, ev2, ev3, wk, List.forall_mem_cons, List.forall_mem_map, List.forall_mem_append, List.not_mem_nil, encB_def, encN_def, sb, insA, encIns, ins_eta, jumpTo_eq, List.map_nil, List.length_nil, beq_self_eq_true, wpT_hit, wpT_miss, wpT_skip, *]) | (refine LCB.cond (by (simp only [seval, ev1, ev2, ev3, ev4, beq_self_eq_true, encB_def, encN_def, sb, insA, encIns, ins_eta, jumpTo_eq, List.map_nil, List.length_nil, beq_self_eq_true, wpT_hit, wpT_miss, wpT_skip, *]) <;> rfl) (fun hc => ?_) (fun hc => ?_) <;> try simp only [seval, decide_eq_true_eq, decide_eq_false_iff_not, Bool.not_eq_true', Bool.not_eq_false', Bool.not_true, Bool.not_false] at hc) | (refine wpG_split (by (simp only [seval, ev1, ev2, ev3, ev4, beq_self_eq_true, encB_def, encN_def, sb, insA, encIns, ins_eta, jumpTo_eq, List.map_nil, List.length_nil, beq_self_eq_true, wpT_hit, wpT_miss, wpT_skip, *]) <;> rfl) (fun hc => ?_) (fun hc => ?_) <;> try simp only [seval, decide_eq_true_eq, decide_eq_false_iff_not, Bool.not_eq_true', Bool.not_eq_false', Bool.not_true, Bool.not_false] at hc) | (refine wqG_split (by (simp only [seval, ev1, ev2, ev3, ev4, beq_self_eq_true, encB_def, encN_def, sb, insA, encIns, ins_eta, jumpTo_eq, List.map_nil, List.length_nil, beq_self_eq_true, wpT_hit, wpT_miss, wpT_skip, *]) <;> rfl) (fun hc => ?_) (fun hc => ?_) <;> try simp only [seval, decide_eq_true_eq, decide_eq_false_iff_not, Bool.not_eq_true', Bool.not_eq_false', Bool.not_true, Bool.not_false] at hc) | refine ACalls.inst ?_ | refine CallP.inst rfl ?_)
    first | refine ACalls.pure (h1.of) ?_ | refine CallP.pure (h1.of) rfl ?_
    repeat' (first | simp only [seval, ev1, ev2, ev3, ev4, beq_self_eq_true, encB_def, encN_def, sb, insA, encIns, ins_eta, jumpTo_eq, List.map_nil, List.length_nil, beq_self_eq_true, wpT_hit, wpT_miss, wpT_skip, *] | simp (disch := omega) only [if_pos, if_neg] | refine R.seq ?_ | refine LCB.text ?_ | refine LCB.quiet rfl ?_ | refine R.calls rfl ?_ | refine R.block ?_ | refine LCB.skip ?_ | refine LCB.exit ?_ | refine LCB.ret ?_ | (refine RetOk.val hcl ?_; simp only [seval, ev1, ev2, ev3, wk, List.forall_mem_cons, List.forall_mem_map, List.forall_mem_append, List.not_mem_nil, encB_def, encN_def, sb, insA, encIns, ins_eta, jumpTo_eq, List.map_nil, List.length_nil, beq_self_eq_true, wpT_hit, wpT_miss, wpT_skip, *]) | (refine Weak.at hcl ?_; simp only [seval, ev1, ev2, ev3, wk, List.forall_mem_cons, List.forall_mem_map, List.forall_mem_append, List.not_mem_nil, encB_def, encN_def, sb, insA, encIns, ins_eta, jumpTo_eq, List.map_nil, List.length_nil, beq_self_eq_true, wpT_hit, wpT_miss, wpT_skip, *]) | (refine LCB.cond (by (simp only [seval, ev1, ev2, ev3, ev4, beq_self_eq_true, encB_def, encN_def, sb, insA, encIns, ins_eta, jumpTo_eq, List.map_nil, List.length_nil, beq_self_eq_true, wpT_hit, wpT_miss, wpT_skip, *]) <;> rfl) (fun hc => ?_) (fun hc => ?_) <;> try simp only [seval, decide_eq_true_eq, decide_eq_false_iff_not, Bool.not_eq_true', Bool.not_eq_false', Bool.not_true, Bool.not_false] at hc) | (refine wpG_split (by (simp only [seval, ev1, ev2, ev3, ev4, beq_self_eq_true, encB_def, encN_def, sb, insA, encIns, ins_eta, jumpTo_eq, List.map_nil, List.length_nil, beq_self_eq_true, wpT_hit, wpT_miss, wpT_skip, *]) <;> rfl) (fun hc => ?_) (fun hc => ?_) <;> try simp only [seval, decide_eq_true_eq, decide_eq_false_iff_not, Bool.not_eq_true', Bool.not_eq_false', Bool.not_true, Bool.not_false] at hc) | (refine wqG_split (by (simp only [seval, ev1, ev2, ev3, ev4, beq_self_eq_true, encB_def, encN_def, sb, insA, encIns, ins_eta, jumpTo_eq, List.map_nil, List.length_nil, beq_self_eq_true, wpT_hit, wpT_miss, wpT_skip, *]) <;> rfl) (fun hc => ?_) (fun hc => ?_) <;> try simp only [seval, decide_eq_true_eq, decide_eq_false_iff_not, Bool.not_eq_true', Bool.not_eq_false', Bool.not_true, Bool.not_false] at hc) | refine ACalls.inst ?_ | refine CallP.inst rfl ?_)

theorem asmBehind_law : ∀ av, FitAs [.one (.list insSh), .agg insSh] av → ACalls Tryd.prog 9 av [] fun r _ => r = .bool true := by
  rintro _ ⟨a, _, rfl, h1, b, _, rfl, h2, rfl⟩
  obtain ⟨f, rfl, hf, _⟩ := h1.inss
  obtain ⟨x, rfl, hx⟩ := h2.ins
  exact (AsmBehind_ok f x).law

set_option maxRecDepth 100000 in
theorem asmBehind_lifted (os : Os) (started : os.Started) (H : Type) (enc : TypeId × Value → H) :
    ReturnsInHanded {} Tryd.checked os 9 .any (fun w args => (Rows.asmBehindSpec.pre enc Tryd.prog Tryd.f9 [] false w args ∧ laidMetH Tryd.prog laidL w) ∧ sizedMet enc Tryd.prog Tryd.f9 (OpenSpec.ofChange Rows.asmBehindSpec) false w args)
      (Rows.asmBehindSpec.post enc Tryd.prog Tryd.f9 false true false false) := by
  refine returnsInHanded_of_change_and (C := Tryd.checked) (X := fun w _ => laidMetH Tryd.prog laidL w) (fun _ _ _ hh h => h.of_heap hh) own_ok started (by kernel_rfl) Tryd.func9
    (ChangeSpec.witness_shaped (enc := enc) (C := Tryd.checked) (os := os) (X := fun w _ => laidMetH Tryd.prog laidL w) false (World.doorLaid Tryd.prog 400 os) #[.slice none 0 0, (.agg #[.int .i64 0, .int .i64 0, .int .i64 0, .int .i64 0, .int .i64 0, .int .i64 0])] 8 rfl (World.shaped_of_RefB (by kernel_rfl) (by kernel_rfl)) (by kernel_rfl) (by kernel_rfl) (by kernel_rfl) (door_met os _)) ?_
  intro W base args ds gs before hval0 hW _ _ hL _
  exact law_contract (base := base) laid_ok rfl (by kernel_rfl) (by kernel_rfl) (by kernel_rfl)
    (fun ds hl => by
      match ds, hl with
      | [d1, d2], _ => rfl) (glob_of_laid hL) asmBehind_law hval0 hW

set_option maxRecDepth 100000 in
theorem asmBehind_row : Rows.AsmBehindSaid :=
  OpenClaim.holds_of_wide 9 Tryd.f9 rfl rfl rfl rfl rfl rfl rfl ⟨rfl, rfl, rfl, rfl, rfl⟩ rfl rfl rfl rfl rfl (by kernel_rfl) Tryd.func9 (by kernel_rfl)
    (of_decide_eq_true (by kernel_rfl)) (by unfold Func.isWrapper; first | (rw [if_pos (by decide +kernel)]; kernel_rfl) | (rw [if_neg (by decide +kernel)]; exact ⟨rfl, rfl⟩))
    (fun os started H enc _ => asmBehind_lifted os started H enc)

set_option maxRecDepth 100000 in
/-- **AsmBehind.** -/
theorem asmBehind_holds : Rows.AsmBehindCardSaid :=
  Claim7.holds_tied_plain_at .later [] [.data] true (true, "65a70772e3f582673ffc292e02c5536b159eae890dd58bce1e5979f24075c7c7") false
    asmBehind_row (fun _ h => by cases h) (by kernel_rfl) (fun _ h => by cases h) asmBehind_row_tie rfl ⟨rfl, rfl⟩ (by kernel_rfl) rfl
    (fun f fn hf hfn => by
      obtain rfl : f = 9 := Option.some.inj ((show Tryd.prog.funcNamed "joinery/joinerylaw04.AsmBehind" = some 9 by kernel_rfl).symm.trans hf) |>.symm
      obtain rfl : fn = Tryd.f9 := (Option.some.inj (Tryd.func9.symm.trans hfn)).symm
      exact ⟨by kernel_rfl, fun j t ht => by
        have hall : (Tryd.f9.params.toList.all fun u => !Tryd.prog.wantsStandIn u) = true := by kernel_rfl
        have hm : t ∈ Tryd.f9.params.toList := by
          have := Array.mem_of_getElem? ht
          simpa using this
        exact (show Tryd.prog.wantsStandIn t = false by simpa using List.all_eq_true.1 hall t hm)⟩)
    (by kernel_rfl)
end Go.Proofs.YtoiceinjademgaaDoor
