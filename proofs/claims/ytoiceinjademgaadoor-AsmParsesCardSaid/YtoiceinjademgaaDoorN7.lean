/-
  Places' texts, read: loc.Parse.
-/
import Derived.Test.YtoiceinjademgaaDoorN6
namespace Go.Proofs.YtoiceinjademgaaDoor
open Go.RowKit
set_option linter.unusedVariables false
set_option linter.unusedSimpArgs false

/-- What is known behind some bytes. -/
def LocAt (s : List UInt8) (p f n m : Nat) : Prop :=
  (p = 0 ∧ f = 0 ∧ n = 0 ∧ m = 0) ∨
  (((s.getD 0 0).toNat = 114 ∧ f = 0 ∧ m = 8 ∨ (s.getD 0 0).toNat = 115 ∧ f = 8 ∧ m = 16) ∧ (p = 1 ∧ n = 0 ∨ p = 2 ∧ isDig (s.getD 1 0) = true ∧ n = dv (s.getD 1 0) ∨
    p = 3 ∧ isDig (s.getD 1 0) = true ∧ isDig (s.getD 2 0) = true ∧ dv (s.getD 1 0) ≠ 0 ∧ n = dv (s.getD 1 0) * 10 + dv (s.getD 2 0)))

set_option maxHeartbeats 1000000 in
theorem loc_Parse_ok (s : List UInt8) (hs63 : s.length ≤ 9223372036854775807) : Pure Tryd.prog 48 [.str (bs s)] (locP s) := by
  intro H
  refine ACalls.go loc_Parse.low (by simp) fun hcl => ?_
  (refine R.seq ?_; refine LCB.text ?_; repeat' (first | simp only [seval, ev1, ev2, ev3, ev4, beq_self_eq_true, encB_def, sb, *] | simp (disch := omega) only [if_pos, if_neg]))
  (refine R.seq ?_; refine LCB.text ?_; repeat' (first | simp only [seval, ev1, ev2, ev3, ev4, beq_self_eq_true, encB_def, sb, *] | simp (disch := omega) only [if_pos, if_neg]))
  refine R.seq ?_
  (refine R.seq ?_; refine LCB.text ?_; repeat' (first | simp only [seval, ev1, ev2, ev3, ev4, beq_self_eq_true, encB_def, sb, *] | simp (disch := omega) only [if_pos, if_neg]))
  refine R.block (R.loop (S := Nat × Nat × Nat × Nat) ⟨fun x => [(0, .str (bs s)), (4, .int .i64 (x.2.1 : Int)), (5, .int .i64 (x.2.2.1 : Int)), (6, .int .i64 (x.2.2.2 : Int)), (10, .iter H.length)], fun x => H ++ [.iter (bs s) x.1],
    fun x => x.1 ≤ s.length ∧ LocAt s x.1 x.2.1 x.2.2.1 x.2.2.2, fun x => s.length - x.1⟩ (0, 0, 0, 0) ⟨Nat.zero_le _, .inl ⟨rfl, rfl, rfl, rfl⟩⟩ (Weak.at hcl ?_) ?_)
  · simp only [seval, ev1, ev2, ev3, wk, List.forall_mem_cons, List.forall_mem_map, List.forall_mem_append, List.not_mem_nil, encB_def, sb, *]
  rintro ⟨p, f, n, m⟩ ⟨hp, hq⟩
  simp only at hp hq ⊢
  replace hq := Hold.mk hq
  have hn : n < 100 := by
    rcases hq.of with h | ⟨_, h | h | h⟩
    · omega
    · omega
    · have := h.2.1; simp [isDig] at this; have := h.2.2; unfold dv at this; simp only [List.getD] at *; omega
    · have h1 := h.2.1; have h2 := h.2.2.1; simp [isDig] at h1 h2; have := h.2.2.2.2; unfold dv at this; simp only [List.getD] at *; omega
  by_cases hlt : p < s.length
  · by_cases hf : 128 ≤ (s.getD p 0).toNat
    · obtain ⟨f1, f2, f3, f4⟩ := dec_far hlt hf
      have hbad : locP s = .tup [.int .i64 0, .int .i64 2] := by
        apply loc_bad
        have hx := hq.of
        unfold LocAt at hx
        have hpc : p = 0 ∨ p = 1 ∨ p = 2 ∨ p = 3 := by omega
        rcases hpc with rfl | rfl | rfl | rfl
        · omega
        · have := isDig_no (c := s.getD 1 0) (by omega)
          exact .inr (.inr (.inr (.inl this)))
        · have := isDig_no (c := s.getD 2 0) (by omega)
          exact .inr (.inr (.inr (.inr (.inl ⟨hlt, .inl this⟩))))
        · exact .inr (.inl hlt)
      have q0 : ¬ (((Utf8.decode (bs s) p).1 : Nat) : Int) = 114 := by omega
      have q3 : ¬ (((Utf8.decode (bs s) p).1 : Nat) : Int) = 115 := by omega
      have q1 : ¬ (((Utf8.decode (bs s) p).1 : Nat) : Int) < 48 := by omega
      have q2 : (57 : Int) < (((Utf8.decode (bs s) p).1 : Nat) : Int) := by omega
      clear f4 f2 f3
      repeat' (first | simp only [seval, ev1, ev2, ev3, ev4, beq_self_eq_true, encB_def, sb, *] | simp (disch := omega) only [if_pos, if_neg] | refine R.seq ?_ | refine LCB.text ?_ | refine LCB.quiet rfl ?_ | refine R.calls rfl ?_ | refine R.block ?_ | refine LCB.skip ?_ | refine LCB.exit ?_ | refine LCB.ret ?_ | (refine RetOk.val hcl ?_; simp only [seval, ev1, ev2, ev3, wk, List.forall_mem_cons, List.forall_mem_map, List.forall_mem_append, List.not_mem_nil, encB_def, sb, *]) | (refine Weak.at hcl ?_; simp only [seval, ev1, ev2, ev3, wk, List.forall_mem_cons, List.forall_mem_map, List.forall_mem_append, List.not_mem_nil, encB_def, sb, *]) | (refine LCB.cond (by (simp only [seval, ev1, ev2, ev3, ev4, beq_self_eq_true, encB_def, sb, *]) <;> rfl) (fun hc => ?_) (fun hc => ?_) <;> try simp only [seval, decide_eq_true_eq, decide_eq_false_iff_not, Bool.not_eq_true', Bool.not_eq_false', Bool.not_true, Bool.not_false] at hc) | (refine wpG_split (by (simp only [seval, ev1, ev2, ev3, ev4, beq_self_eq_true, encB_def, sb, *]) <;> rfl) (fun hc => ?_) (fun hc => ?_) <;> try simp only [seval, decide_eq_true_eq, decide_eq_false_iff_not, Bool.not_eq_true', Bool.not_eq_false', Bool.not_true, Bool.not_false] at hc) | (refine wqG_split (by (simp only [seval, ev1, ev2, ev3, ev4, beq_self_eq_true, encB_def, sb, *]) <;> rfl) (fun hc => ?_) (fun hc => ?_) <;> try simp only [seval, decide_eq_true_eq, decide_eq_false_iff_not, Bool.not_eq_true', Bool.not_eq_false', Bool.not_true, Bool.not_false] at hc) | refine ACalls.inst ?_ | refine CallP.inst rfl ?_)
    · have hd := dec_near (l := s) (p := p) (by omega)
      replace hf := Hold.mk hf
      have hx := hq.of
      unfold LocAt at hx
      have hpc : p = 0 ∨ p = 1 ∨ p = 2 ∨ p = 3 := by omega
      have qn (h1 : 48 ≤ (s.getD p 0).toNat) (h2 : (s.getD p 0).toNat ≤ 57) : IntKind.i64.wrap (IntKind.i64.wrap ((n : Int) * 10) + IntKind.i64.wrap (IntKind.i32.wrap (((s.getD p 0).toNat : Int) - 48))) = ((n * 10 + dv (s.getD p 0) : Nat) : Int) := by
        unfold dv
        rw [IntKind.wrap_i64, IntKind.wrap_i64, IntKind.wrap_i64, IntKind.wrap_i32]; omega
      have isd (h1 : 48 ≤ (s.getD p 0).toNat) (h2 : (s.getD p 0).toNat ≤ 57) : isDig (s.getD p 0) = true := by unfold isDig; rw [decide_eq_true h1, decide_eq_true h2]; rfl
      replace isd := Hold.mk isd
      replace qn := Hold.mk qn
      clear hx
      rcases hpc with rfl | rfl | rfl | rfl
      · have hx := hq.of
        have hfn : f = 0 ∧ n = 0 ∧ m = 0 := by unfold LocAt at hx; omega
        obtain ⟨rfl, rfl, rfl⟩ := hfn
        clear hx
        repeat' (first | simp only [seval, ev1, ev2, ev3, ev4, beq_self_eq_true, encB_def, sb, *] | simp (disch := omega) only [if_pos, if_neg] | refine R.seq ?_ | refine LCB.text ?_ | refine LCB.quiet rfl ?_ | refine R.calls rfl ?_ | refine R.block ?_ | refine LCB.skip ?_ | refine LCB.exit ?_ | refine LCB.ret ?_ | (refine RetOk.val hcl ?_; simp only [seval, ev1, ev2, ev3, wk, List.forall_mem_cons, List.forall_mem_map, List.forall_mem_append, List.not_mem_nil, encB_def, sb, *]) | (refine Weak.at hcl ?_; simp only [seval, ev1, ev2, ev3, wk, List.forall_mem_cons, List.forall_mem_map, List.forall_mem_append, List.not_mem_nil, encB_def, sb, *]) | (refine LCB.cond (by (simp only [seval, ev1, ev2, ev3, ev4, beq_self_eq_true, encB_def, sb, *]) <;> rfl) (fun hc => ?_) (fun hc => ?_) <;> try simp only [seval, decide_eq_true_eq, decide_eq_false_iff_not, Bool.not_eq_true', Bool.not_eq_false', Bool.not_true, Bool.not_false] at hc) | (refine wpG_split (by (simp only [seval, ev1, ev2, ev3, ev4, beq_self_eq_true, encB_def, sb, *]) <;> rfl) (fun hc => ?_) (fun hc => ?_) <;> try simp only [seval, decide_eq_true_eq, decide_eq_false_iff_not, Bool.not_eq_true', Bool.not_eq_false', Bool.not_true, Bool.not_false] at hc) | (refine wqG_split (by (simp only [seval, ev1, ev2, ev3, ev4, beq_self_eq_true, encB_def, sb, *]) <;> rfl) (fun hc => ?_) (fun hc => ?_) <;> try simp only [seval, decide_eq_true_eq, decide_eq_false_iff_not, Bool.not_eq_true', Bool.not_eq_false', Bool.not_true, Bool.not_false] at hc) | refine ACalls.inst ?_ | refine CallP.inst rfl ?_)
        · refine ⟨(1, 0, 0, 8), ⟨hlt, .inr ⟨.inl ⟨by omega, rfl, rfl⟩, .inl ⟨rfl, rfl⟩⟩⟩, by simp only; omega, Weak.at hcl ?_⟩
          simp only [seval, ev1, ev2, ev3, wk, List.forall_mem_cons, List.forall_mem_map, List.forall_mem_append, List.not_mem_nil, encB_def, sb, *]
        · refine ⟨(1, 8, 0, 16), ⟨hlt, .inr ⟨.inr ⟨by omega, rfl, rfl⟩, .inl ⟨rfl, rfl⟩⟩⟩, by simp only; omega, Weak.at hcl ?_⟩
          simp only [seval, ev1, ev2, ev3, wk, List.forall_mem_cons, List.forall_mem_map, List.forall_mem_append, List.not_mem_nil, encB_def, sb, *]
        · have := loc_bad (s := s) (.inr (.inr (.inl ⟨by omega, by omega⟩)))
          simp only [seval, ev1, ev2, ev3, wk, List.forall_mem_cons, List.forall_mem_map, List.forall_mem_append, List.not_mem_nil, encB_def, sb, *]
      · have hx := hq.of
        unfold LocAt at hx
        have hfn : n = 0 ∧ ((s.getD 0 0).toNat = 114 ∧ f = 0 ∧ m = 8 ∨ (s.getD 0 0).toNat = 115 ∧ f = 8 ∧ m = 16) := by
          rcases hx with h | ⟨h, h2⟩
          · omega
          · exact ⟨by omega, h⟩
        obtain ⟨rfl, hfm⟩ := hfn
        replace hfm := Hold.mk hfm
        clear hx
        repeat' (first | simp only [seval, ev1, ev2, ev3, ev4, beq_self_eq_true, encB_def, sb, *] | simp (disch := omega) only [if_pos, if_neg] | refine R.seq ?_ | refine LCB.text ?_ | refine LCB.quiet rfl ?_ | refine R.calls rfl ?_ | refine R.block ?_ | refine LCB.skip ?_ | refine LCB.exit ?_ | refine LCB.ret ?_ | (refine RetOk.val hcl ?_; simp only [seval, ev1, ev2, ev3, wk, List.forall_mem_cons, List.forall_mem_map, List.forall_mem_append, List.not_mem_nil, encB_def, sb, *]) | (refine Weak.at hcl ?_; simp only [seval, ev1, ev2, ev3, wk, List.forall_mem_cons, List.forall_mem_map, List.forall_mem_append, List.not_mem_nil, encB_def, sb, *]) | (refine LCB.cond (by (simp only [seval, ev1, ev2, ev3, ev4, beq_self_eq_true, encB_def, sb, *]) <;> rfl) (fun hc => ?_) (fun hc => ?_) <;> try simp only [seval, decide_eq_true_eq, decide_eq_false_iff_not, Bool.not_eq_true', Bool.not_eq_false', Bool.not_true, Bool.not_false] at hc) | (refine wpG_split (by (simp only [seval, ev1, ev2, ev3, ev4, beq_self_eq_true, encB_def, sb, *]) <;> rfl) (fun hc => ?_) (fun hc => ?_) <;> try simp only [seval, decide_eq_true_eq, decide_eq_false_iff_not, Bool.not_eq_true', Bool.not_eq_false', Bool.not_true, Bool.not_false] at hc) | (refine wqG_split (by (simp only [seval, ev1, ev2, ev3, ev4, beq_self_eq_true, encB_def, sb, *]) <;> rfl) (fun hc => ?_) (fun hc => ?_) <;> try simp only [seval, decide_eq_true_eq, decide_eq_false_iff_not, Bool.not_eq_true', Bool.not_eq_false', Bool.not_true, Bool.not_false] at hc) | refine ACalls.inst ?_ | refine CallP.inst rfl ?_)
        · have := loc_bad (s := s) (.inr (.inr (.inr (.inl (isDig_no (by omega))))))
          simp only [seval, ev1, ev2, ev3, wk, List.forall_mem_cons, List.forall_mem_map, List.forall_mem_append, List.not_mem_nil, encB_def, sb, *]
        · have := loc_bad (s := s) (.inr (.inr (.inr (.inl (isDig_no (by omega))))))
          simp only [seval, ev1, ev2, ev3, wk, List.forall_mem_cons, List.forall_mem_map, List.forall_mem_append, List.not_mem_nil, encB_def, sb, *]
        · have qn := qn.of (by omega) (by omega)
          refine ⟨(2, f, dv (s.getD 1 0), m), ⟨hlt, .inr ⟨hfm.of, .inr (.inl ⟨rfl, isd.of (by omega) (by omega), rfl⟩)⟩⟩, by simp only; omega, Weak.at hcl ?_⟩
          clear qn
          simp only [seval, ev1, ev2, ev3, wk, List.forall_mem_cons, List.forall_mem_map, List.forall_mem_append, List.not_mem_nil, encB_def, sb, *]
          unfold dv
          rw [IntKind.wrap_i64, IntKind.wrap_i64, IntKind.wrap_i64, IntKind.wrap_i32]; omega
      · have hx := hq.of
        unfold LocAt at hx
        have hfn : isDig (s.getD 1 0) = true ∧ n = dv (s.getD 1 0) ∧ ((s.getD 0 0).toNat = 114 ∧ f = 0 ∧ m = 8 ∨ (s.getD 0 0).toNat = 115 ∧ f = 8 ∧ m = 16) := by
          rcases hx with h | ⟨h, h2 | h2 | h2⟩
          · omega
          · omega
          · exact ⟨h2.2.1, h2.2.2, h⟩
          · omega
        obtain ⟨hd1, hdn, hfm⟩ := hfn
        replace hfm := Hold.mk hfm
        replace hd1 := Hold.mk hd1
        replace hdn := Hold.mk hdn
        clear hx
        repeat' (first | simp only [seval, ev1, ev2, ev3, ev4, beq_self_eq_true, encB_def, sb, *] | simp (disch := omega) only [if_pos, if_neg] | refine R.seq ?_ | refine LCB.text ?_ | refine LCB.quiet rfl ?_ | refine R.calls rfl ?_ | refine R.block ?_ | refine LCB.skip ?_ | refine LCB.exit ?_ | refine LCB.ret ?_ | (refine RetOk.val hcl ?_; simp only [seval, ev1, ev2, ev3, wk, List.forall_mem_cons, List.forall_mem_map, List.forall_mem_append, List.not_mem_nil, encB_def, sb, *]) | (refine Weak.at hcl ?_; simp only [seval, ev1, ev2, ev3, wk, List.forall_mem_cons, List.forall_mem_map, List.forall_mem_append, List.not_mem_nil, encB_def, sb, *]) | (refine LCB.cond (by (simp only [seval, ev1, ev2, ev3, ev4, beq_self_eq_true, encB_def, sb, *]) <;> rfl) (fun hc => ?_) (fun hc => ?_) <;> try simp only [seval, decide_eq_true_eq, decide_eq_false_iff_not, Bool.not_eq_true', Bool.not_eq_false', Bool.not_true, Bool.not_false] at hc) | (refine wpG_split (by (simp only [seval, ev1, ev2, ev3, ev4, beq_self_eq_true, encB_def, sb, *]) <;> rfl) (fun hc => ?_) (fun hc => ?_) <;> try simp only [seval, decide_eq_true_eq, decide_eq_false_iff_not, Bool.not_eq_true', Bool.not_eq_false', Bool.not_true, Bool.not_false] at hc) | (refine wqG_split (by (simp only [seval, ev1, ev2, ev3, ev4, beq_self_eq_true, encB_def, sb, *]) <;> rfl) (fun hc => ?_) (fun hc => ?_) <;> try simp only [seval, decide_eq_true_eq, decide_eq_false_iff_not, Bool.not_eq_true', Bool.not_eq_false', Bool.not_true, Bool.not_false] at hc) | refine ACalls.inst ?_ | refine CallP.inst rfl ?_)
        · have := loc_bad (s := s) (.inr (.inr (.inr (.inr (.inl ⟨hlt, .inl (isDig_no (by omega))⟩)))))
          simp only [seval, ev1, ev2, ev3, wk, List.forall_mem_cons, List.forall_mem_map, List.forall_mem_append, List.not_mem_nil, encB_def, sb, *]
        · have := loc_bad (s := s) (.inr (.inr (.inr (.inr (.inl ⟨hlt, .inl (isDig_no (by omega))⟩)))))
          simp only [seval, ev1, ev2, ev3, wk, List.forall_mem_cons, List.forall_mem_map, List.forall_mem_append, List.not_mem_nil, encB_def, sb, *]
        · have := loc_bad (s := s) (.inr (.inr (.inr (.inr (.inl ⟨hlt, .inr (by rw [← hdn.of]; omega)⟩)))))
          simp only [seval, ev1, ev2, ev3, wk, List.forall_mem_cons, List.forall_mem_map, List.forall_mem_append, List.not_mem_nil, encB_def, sb, *]
        · have qn := qn.of (by omega) (by omega)
          refine ⟨(3, f, n * 10 + dv (s.getD 2 0), m), ⟨hlt, .inr ⟨hfm.of, .inr (.inr ⟨rfl, hd1.of, isd.of (by omega) (by omega), by rw [← hdn.of]; omega, by rw [← hdn.of]⟩)⟩⟩, by simp only; omega, Weak.at hcl ?_⟩
          simp only [seval, ev1, ev2, ev3, wk, List.forall_mem_cons, List.forall_mem_map, List.forall_mem_append, List.not_mem_nil, encB_def, sb, *]
      · have := loc_bad (s := s) (.inr (.inl hlt))
        repeat' (first | simp only [seval, ev1, ev2, ev3, ev4, beq_self_eq_true, encB_def, sb, *] | simp (disch := omega) only [if_pos, if_neg] | refine R.seq ?_ | refine LCB.text ?_ | refine LCB.quiet rfl ?_ | refine R.calls rfl ?_ | refine R.block ?_ | refine LCB.skip ?_ | refine LCB.exit ?_ | refine LCB.ret ?_ | (refine RetOk.val hcl ?_; simp only [seval, ev1, ev2, ev3, wk, List.forall_mem_cons, List.forall_mem_map, List.forall_mem_append, List.not_mem_nil, encB_def, sb, *]) | (refine Weak.at hcl ?_; simp only [seval, ev1, ev2, ev3, wk, List.forall_mem_cons, List.forall_mem_map, List.forall_mem_append, List.not_mem_nil, encB_def, sb, *]) | (refine LCB.cond (by (simp only [seval, ev1, ev2, ev3, ev4, beq_self_eq_true, encB_def, sb, *]) <;> rfl) (fun hc => ?_) (fun hc => ?_) <;> try simp only [seval, decide_eq_true_eq, decide_eq_false_iff_not, Bool.not_eq_true', Bool.not_eq_false', Bool.not_true, Bool.not_false] at hc) | (refine wpG_split (by (simp only [seval, ev1, ev2, ev3, ev4, beq_self_eq_true, encB_def, sb, *]) <;> rfl) (fun hc => ?_) (fun hc => ?_) <;> try simp only [seval, decide_eq_true_eq, decide_eq_false_iff_not, Bool.not_eq_true', Bool.not_eq_false', Bool.not_true, Bool.not_false] at hc) | (refine wqG_split (by (simp only [seval, ev1, ev2, ev3, ev4, beq_self_eq_true, encB_def, sb, *]) <;> rfl) (fun hc => ?_) (fun hc => ?_) <;> try simp only [seval, decide_eq_true_eq, decide_eq_false_iff_not, Bool.not_eq_true', Bool.not_eq_false', Bool.not_true, Bool.not_false] at hc) | refine ACalls.inst ?_ | refine CallP.inst rfl ?_)
  · have hp' : p = s.length := by omega
    subst hp'
    by_cases hl2 : s.length < 2
    · have := loc_bad (s := s) (.inl hl2)
      repeat' (first | simp only [seval, ev1, ev2, ev3, ev4, beq_self_eq_true, encB_def, sb, *] | simp (disch := omega) only [if_pos, if_neg] | refine R.seq ?_ | refine LCB.text ?_ | refine LCB.quiet rfl ?_ | refine R.calls rfl ?_ | refine R.block ?_ | refine LCB.skip ?_ | refine LCB.exit ?_ | refine LCB.ret ?_ | (refine RetOk.val hcl ?_; simp only [seval, ev1, ev2, ev3, wk, List.forall_mem_cons, List.forall_mem_map, List.forall_mem_append, List.not_mem_nil, encB_def, sb, *]) | (refine Weak.at hcl ?_; simp only [seval, ev1, ev2, ev3, wk, List.forall_mem_cons, List.forall_mem_map, List.forall_mem_append, List.not_mem_nil, encB_def, sb, *]) | (refine LCB.cond (by (simp only [seval, ev1, ev2, ev3, ev4, beq_self_eq_true, encB_def, sb, *]) <;> rfl) (fun hc => ?_) (fun hc => ?_) <;> try simp only [seval, decide_eq_true_eq, decide_eq_false_iff_not, Bool.not_eq_true', Bool.not_eq_false', Bool.not_true, Bool.not_false] at hc) | (refine wpG_split (by (simp only [seval, ev1, ev2, ev3, ev4, beq_self_eq_true, encB_def, sb, *]) <;> rfl) (fun hc => ?_) (fun hc => ?_) <;> try simp only [seval, decide_eq_true_eq, decide_eq_false_iff_not, Bool.not_eq_true', Bool.not_eq_false', Bool.not_true, Bool.not_false] at hc) | (refine wqG_split (by (simp only [seval, ev1, ev2, ev3, ev4, beq_self_eq_true, encB_def, sb, *]) <;> rfl) (fun hc => ?_) (fun hc => ?_) <;> try simp only [seval, decide_eq_true_eq, decide_eq_false_iff_not, Bool.not_eq_true', Bool.not_eq_false', Bool.not_true, Bool.not_false] at hc) | refine ACalls.inst ?_ | refine CallP.inst rfl ?_)
      all_goals omega
    have hx := hq.of
    unfold LocAt at hx
    have hx := hx.resolve_left (by omega)
    by_cases hnm : n < m
    · have := loc_good (s := s) f m n hx.1 hnm (by
        rcases hx.2 with h | h | h
        · omega
        · exact .inl h
        · exact .inr h)
      have qf : IntKind.i64.wrap ((f : Int) + (n : Int)) = ((f + n : Nat) : Int) := by rw [IntKind.wrap_i64]; omega
      replace hx := Hold.mk hx
      repeat' (first | simp only [seval, ev1, ev2, ev3, ev4, beq_self_eq_true, encB_def, sb, *] | simp (disch := omega) only [if_pos, if_neg] | refine R.seq ?_ | refine LCB.text ?_ | refine LCB.quiet rfl ?_ | refine R.calls rfl ?_ | refine R.block ?_ | refine LCB.skip ?_ | refine LCB.exit ?_ | refine LCB.ret ?_ | (refine RetOk.val hcl ?_; simp only [seval, ev1, ev2, ev3, wk, List.forall_mem_cons, List.forall_mem_map, List.forall_mem_append, List.not_mem_nil, encB_def, sb, *]) | (refine Weak.at hcl ?_; simp only [seval, ev1, ev2, ev3, wk, List.forall_mem_cons, List.forall_mem_map, List.forall_mem_append, List.not_mem_nil, encB_def, sb, *]) | (refine LCB.cond (by (simp only [seval, ev1, ev2, ev3, ev4, beq_self_eq_true, encB_def, sb, *]) <;> rfl) (fun hc => ?_) (fun hc => ?_) <;> try simp only [seval, decide_eq_true_eq, decide_eq_false_iff_not, Bool.not_eq_true', Bool.not_eq_false', Bool.not_true, Bool.not_false] at hc) | (refine wpG_split (by (simp only [seval, ev1, ev2, ev3, ev4, beq_self_eq_true, encB_def, sb, *]) <;> rfl) (fun hc => ?_) (fun hc => ?_) <;> try simp only [seval, decide_eq_true_eq, decide_eq_false_iff_not, Bool.not_eq_true', Bool.not_eq_false', Bool.not_true, Bool.not_false] at hc) | (refine wqG_split (by (simp only [seval, ev1, ev2, ev3, ev4, beq_self_eq_true, encB_def, sb, *]) <;> rfl) (fun hc => ?_) (fun hc => ?_) <;> try simp only [seval, decide_eq_true_eq, decide_eq_false_iff_not, Bool.not_eq_true', Bool.not_eq_false', Bool.not_true, Bool.not_false] at hc) | refine ACalls.inst ?_ | refine CallP.inst rfl ?_)
      all_goals omega
    · have hv : valD s.tail = n := by
        rcases hx.2 with h | h | h
        · omega
        · match s, h with
          | [a, b], h => simp [valD, valA] at h ⊢; exact h.2.symm
          | [], h => simp at h
          | [a], h => simp at h
          | a :: b :: c :: r, h => simp at h
        · match s, h with
          | [a, b, c], h => simp [valD, valA] at h ⊢; exact h.2.2.2.symm
          | [], h => simp at h
          | [a], h => simp at h
          | [a, b], h => simp at h
          | a :: b :: c :: d :: r, h => simp at h
      have := loc_bad (s := s) (by
        rcases hx.1 with h | h
        · exact .inr (.inr (.inr (.inr (.inr (.inl ⟨h.1, by omega⟩)))))
        · exact .inr (.inr (.inr (.inr (.inr (.inr (by omega)))))))
      clear hv
      replace hx := Hold.mk hx
      repeat' (first | simp only [seval, ev1, ev2, ev3, ev4, beq_self_eq_true, encB_def, sb, *] | simp (disch := omega) only [if_pos, if_neg] | refine R.seq ?_ | refine LCB.text ?_ | refine LCB.quiet rfl ?_ | refine R.calls rfl ?_ | refine R.block ?_ | refine LCB.skip ?_ | refine LCB.exit ?_ | refine LCB.ret ?_ | (refine RetOk.val hcl ?_; simp only [seval, ev1, ev2, ev3, wk, List.forall_mem_cons, List.forall_mem_map, List.forall_mem_append, List.not_mem_nil, encB_def, sb, *]) | (refine Weak.at hcl ?_; simp only [seval, ev1, ev2, ev3, wk, List.forall_mem_cons, List.forall_mem_map, List.forall_mem_append, List.not_mem_nil, encB_def, sb, *]) | (refine LCB.cond (by (simp only [seval, ev1, ev2, ev3, ev4, beq_self_eq_true, encB_def, sb, *]) <;> rfl) (fun hc => ?_) (fun hc => ?_) <;> try simp only [seval, decide_eq_true_eq, decide_eq_false_iff_not, Bool.not_eq_true', Bool.not_eq_false', Bool.not_true, Bool.not_false] at hc) | (refine wpG_split (by (simp only [seval, ev1, ev2, ev3, ev4, beq_self_eq_true, encB_def, sb, *]) <;> rfl) (fun hc => ?_) (fun hc => ?_) <;> try simp only [seval, decide_eq_true_eq, decide_eq_false_iff_not, Bool.not_eq_true', Bool.not_eq_false', Bool.not_true, Bool.not_false] at hc) | (refine wqG_split (by (simp only [seval, ev1, ev2, ev3, ev4, beq_self_eq_true, encB_def, sb, *]) <;> rfl) (fun hc => ?_) (fun hc => ?_) <;> try simp only [seval, decide_eq_true_eq, decide_eq_false_iff_not, Bool.not_eq_true', Bool.not_eq_false', Bool.not_true, Bool.not_false] at hc) | refine ACalls.inst ?_ | refine CallP.inst rfl ?_)
      all_goals omega
end Go.Proofs.YtoiceinjademgaaDoor
