/-
  Words of a text: the program's.
-/
import Derived.Test.YtoiceinjademgaaDoorP1
namespace Go.Proofs.YtoiceinjademgaaDoor
open Go.RowKit
set_option linter.unusedVariables false
set_option linter.unusedSimpArgs false

theorem dec_step {s : List UInt8} {p : Nat} (h : p < s.length) : ∃ r w, Utf8.decode (bs s) p = (r, w) ∧ 1 ≤ w ∧ p + w ≤ s.length ∧ ((r = (s.getD p 0).toNat ∧ w = 1 ∧ r < 128) ∨ (128 ≤ r ∧ ∀ q, p ≤ q → q < p + w → 128 ≤ (s.getD q 0).toNat)) := by
  by_cases hf : 128 ≤ (s.getD p 0).toNat
  · obtain ⟨f1, f2, f3, f4⟩ := dec_far h hf
    exact ⟨_, _, rfl, f2, f3, .inr ⟨f1, f4⟩⟩
  · exact ⟨_, _, dec_near (by omega), Nat.le_refl _, h, .inl ⟨rfl, rfl, by omega⟩⟩

theorem ins_words_ok (s : List UInt8) (hs : s.length ≤ 1000000) : Pure Tryd.prog 41 [.str (bs s)] (.list ((splitSp s).map encS)) := by
  intro H
  refine ACalls.go ins_words.low (by simp) fun hcl => ?_
  have hl := Hold.mk (splitSp_len s)
  (refine R.seq ?_; refine LCB.text ?_; repeat' (first | simp only [seval, ev1, ev2, ev3, ev4, beq_self_eq_true, encB_def, encS_def, sb, *] | simp (disch := omega) only [if_pos, if_neg]))
  (refine R.seq ?_; refine LCB.text ?_; repeat' (first | simp only [seval, ev1, ev2, ev3, ev4, beq_self_eq_true, encB_def, encS_def, sb, *] | simp (disch := omega) only [if_pos, if_neg]))
  (refine R.seq ?_; refine LCB.text ?_; repeat' (first | simp only [seval, ev1, ev2, ev3, ev4, beq_self_eq_true, encB_def, encS_def, sb, *] | simp (disch := omega) only [if_pos, if_neg]))
  refine R.seq ?_
  (refine R.seq ?_; refine LCB.text ?_; repeat' (first | simp only [seval, ev1, ev2, ev3, ev4, beq_self_eq_true, encB_def, encS_def, sb, *] | simp (disch := omega) only [if_pos, if_neg]))
  refine R.block (R.loop (S := Nat × List (List UInt8) × Nat) ⟨fun x => [(0, .str (bs s)), (3, .sl 1 (H.length + 1) x.2.1.length 0 x.2.1.length), (4, .int .i64 (x.2.2 : Int)), (8, .iter H.length)], fun x => H ++ [.iter (bs s) x.1, .vec 1 (x.2.1.map encS)],
    fun x => x.1 ≤ s.length ∧ x.2.2 ≤ x.1 ∧ x.2.1 ++ glueL ((s.take x.1).drop x.2.2) (splitSp (s.drop x.1)) = splitSp s, fun x => s.length - x.1⟩ (0, [], 0) ⟨Nat.zero_le _, Nat.zero_le _, by simp [glueL_nil]⟩ ((Weak.growAt 3 1 (by omega) (by simp only [seval, ev1, ev2, ev3, ev4, beq_self_eq_true, encB_def, encS_def, sb, *])).trans (Weak.at hcl (by simp only [seval, ev1, ev2, ev3, wk, List.forall_mem_cons, List.forall_mem_map, List.forall_mem_append, List.not_mem_nil, encB_def, encS_def, sb, *]))) ?_)
  rintro ⟨p, out, a⟩ ⟨hp, hwl, hq⟩
  simp only at hp hwl hq ⊢
  have hol : out.length + 1 ≤ s.length + 1 := by
    have := congrArg List.length hq
    have h2 : 1 ≤ (glueL ((s.take p).drop a) (splitSp (s.drop p))).length := by cases splitSp (s.drop p) <;> simp [glueL]
    have h3 := hl.of
    rw [List.length_append] at this
    omega
  replace hq := Hold.mk hq
  by_cases hlt : p < s.length
  · obtain ⟨r, w, hd, h1, h2, h3⟩ := dec_step hlt
    have e2 : IntKind.i64.wrap ((p : Int) + 1) = ((p + 1 : Nat) : Int) := by rw [IntKind.wrap_i64]; omega
    replace h3 := Hold.mk h3
    by_cases h32 : r = 32
    · subst h32
      have h3 := (h3.of.resolve_right (by omega))
      obtain ⟨h4, rfl, _⟩ := h3
      have hc32 : s.getD p 0 = 32 := UInt8.toNat_inj.1 (by rw [← h4]; rfl)
      have hx := Hold.mk (split_sp (w := (s.take p).drop a) hlt hc32)
      have e3 : (((32 : Nat) : Int)) = 32 := rfl
      replace h4 := Hold.mk h4
      repeat' (first | simp only [seval, ev1, ev2, ev3, ev4, beq_self_eq_true, encB_def, encS_def, sb, *] | simp (disch := omega) only [if_pos, if_neg] | refine R.seq ?_ | refine LCB.text ?_ | refine LCB.quiet rfl ?_ | refine R.calls rfl ?_ | refine R.block ?_ | refine LCB.skip ?_ | refine LCB.exit ?_ | refine LCB.ret ?_ | (refine RetOk.val hcl ?_; simp only [seval, ev1, ev2, ev3, wk, List.forall_mem_cons, List.forall_mem_map, List.forall_mem_append, List.not_mem_nil, encB_def, encS_def, sb, *]) | (refine Weak.at hcl ?_; simp only [seval, ev1, ev2, ev3, wk, List.forall_mem_cons, List.forall_mem_map, List.forall_mem_append, List.not_mem_nil, encB_def, encS_def, sb, *]) | (refine LCB.cond (by (simp only [seval, ev1, ev2, ev3, ev4, beq_self_eq_true, encB_def, encS_def, sb, *]) <;> rfl) (fun hc => ?_) (fun hc => ?_) <;> try simp only [seval, decide_eq_true_eq, decide_eq_false_iff_not, Bool.not_eq_true', Bool.not_eq_false', Bool.not_true, Bool.not_false] at hc) | (refine wpG_split (by (simp only [seval, ev1, ev2, ev3, ev4, beq_self_eq_true, encB_def, encS_def, sb, *]) <;> rfl) (fun hc => ?_) (fun hc => ?_) <;> try simp only [seval, decide_eq_true_eq, decide_eq_false_iff_not, Bool.not_eq_true', Bool.not_eq_false', Bool.not_true, Bool.not_false] at hc) | (refine wqG_split (by (simp only [seval, ev1, ev2, ev3, ev4, beq_self_eq_true, encB_def, encS_def, sb, *]) <;> rfl) (fun hc => ?_) (fun hc => ?_) <;> try simp only [seval, decide_eq_true_eq, decide_eq_false_iff_not, Bool.not_eq_true', Bool.not_eq_false', Bool.not_true, Bool.not_false] at hc) | refine ACalls.inst ?_ | refine CallP.inst rfl ?_)
      refine ⟨(p + 1, out ++ [(s.take p).drop a], p + 1), ⟨hlt, Nat.le_refl _, ?_⟩, by simp only; omega, Weak.at hcl ?_⟩
      · simp only
        rw [← hq.of, hx.of]
        simp [glueL_nil]
      · simp only [seval, ev1, ev2, ev3, wk, List.forall_mem_cons, List.forall_mem_map, List.forall_mem_append, List.not_mem_nil, encB_def, encS_def, sb, *]
    · have e3 : ¬ (r : Int) = 32 := by omega
      replace h32 := Hold.mk h32
      have hx := Hold.mk (split_nos (s := s) (a := a) w p hwl h2 (fun q g1 g2 g3 => by
        rcases h3.of with ⟨h4, h5, _⟩ | ⟨h4, h5⟩
        · have : q = p := by omega
          subst this
          rw [g3] at h4
          exact h32.of h4
        · have := h5 q g1 g2
          rw [g3] at this
          exact absurd this (by decide)))
      repeat' (first | simp only [seval, ev1, ev2, ev3, ev4, beq_self_eq_true, encB_def, encS_def, sb, *] | simp (disch := omega) only [if_pos, if_neg] | refine R.seq ?_ | refine LCB.text ?_ | refine LCB.quiet rfl ?_ | refine R.calls rfl ?_ | refine R.block ?_ | refine LCB.skip ?_ | refine LCB.exit ?_ | refine LCB.ret ?_ | (refine RetOk.val hcl ?_; simp only [seval, ev1, ev2, ev3, wk, List.forall_mem_cons, List.forall_mem_map, List.forall_mem_append, List.not_mem_nil, encB_def, encS_def, sb, *]) | (refine Weak.at hcl ?_; simp only [seval, ev1, ev2, ev3, wk, List.forall_mem_cons, List.forall_mem_map, List.forall_mem_append, List.not_mem_nil, encB_def, encS_def, sb, *]) | (refine LCB.cond (by (simp only [seval, ev1, ev2, ev3, ev4, beq_self_eq_true, encB_def, encS_def, sb, *]) <;> rfl) (fun hc => ?_) (fun hc => ?_) <;> try simp only [seval, decide_eq_true_eq, decide_eq_false_iff_not, Bool.not_eq_true', Bool.not_eq_false', Bool.not_true, Bool.not_false] at hc) | (refine wpG_split (by (simp only [seval, ev1, ev2, ev3, ev4, beq_self_eq_true, encB_def, encS_def, sb, *]) <;> rfl) (fun hc => ?_) (fun hc => ?_) <;> try simp only [seval, decide_eq_true_eq, decide_eq_false_iff_not, Bool.not_eq_true', Bool.not_eq_false', Bool.not_true, Bool.not_false] at hc) | (refine wqG_split (by (simp only [seval, ev1, ev2, ev3, ev4, beq_self_eq_true, encB_def, encS_def, sb, *]) <;> rfl) (fun hc => ?_) (fun hc => ?_) <;> try simp only [seval, decide_eq_true_eq, decide_eq_false_iff_not, Bool.not_eq_true', Bool.not_eq_false', Bool.not_true, Bool.not_false] at hc) | refine ACalls.inst ?_ | refine CallP.inst rfl ?_)
      refine ⟨(p + w, out, a), ⟨h2, by simp only; omega, ?_⟩, by simp only; omega, Weak.at hcl ?_⟩
      · simp only
        rw [← hq.of, hx.of]
      · simp only [seval, ev1, ev2, ev3, wk, List.forall_mem_cons, List.forall_mem_map, List.forall_mem_append, List.not_mem_nil, encB_def, encS_def, sb, *]
  · have hp' : p = s.length := by omega
    subst hp'
    have hx : out ++ [s.drop a] = splitSp s := by
      rw [← hq.of]; simp [splitSp, glueL]
    rw [← hx]
    replace hx := Hold.mk hx
    repeat' (first | simp only [seval, ev1, ev2, ev3, ev4, beq_self_eq_true, encB_def, encS_def, sb, *] | simp (disch := omega) only [if_pos, if_neg] | refine R.seq ?_ | refine LCB.text ?_ | refine LCB.quiet rfl ?_ | refine R.calls rfl ?_ | refine R.block ?_ | refine LCB.skip ?_ | refine LCB.exit ?_ | refine LCB.ret ?_ | (refine RetOk.val hcl ?_; simp only [seval, ev1, ev2, ev3, wk, List.forall_mem_cons, List.forall_mem_map, List.forall_mem_append, List.not_mem_nil, encB_def, encS_def, sb, *]) | (refine Weak.at hcl ?_; simp only [seval, ev1, ev2, ev3, wk, List.forall_mem_cons, List.forall_mem_map, List.forall_mem_append, List.not_mem_nil, encB_def, encS_def, sb, *]) | (refine LCB.cond (by (simp only [seval, ev1, ev2, ev3, ev4, beq_self_eq_true, encB_def, encS_def, sb, *]) <;> rfl) (fun hc => ?_) (fun hc => ?_) <;> try simp only [seval, decide_eq_true_eq, decide_eq_false_iff_not, Bool.not_eq_true', Bool.not_eq_false', Bool.not_true, Bool.not_false] at hc) | (refine wpG_split (by (simp only [seval, ev1, ev2, ev3, ev4, beq_self_eq_true, encB_def, encS_def, sb, *]) <;> rfl) (fun hc => ?_) (fun hc => ?_) <;> try simp only [seval, decide_eq_true_eq, decide_eq_false_iff_not, Bool.not_eq_true', Bool.not_eq_false', Bool.not_true, Bool.not_false] at hc) | (refine wqG_split (by (simp only [seval, ev1, ev2, ev3, ev4, beq_self_eq_true, encB_def, encS_def, sb, *]) <;> rfl) (fun hc => ?_) (fun hc => ?_) <;> try simp only [seval, decide_eq_true_eq, decide_eq_false_iff_not, Bool.not_eq_true', Bool.not_eq_false', Bool.not_true, Bool.not_false] at hc) | refine ACalls.inst ?_ | refine CallP.inst rfl ?_)
end Go.Proofs.YtoiceinjademgaaDoor
