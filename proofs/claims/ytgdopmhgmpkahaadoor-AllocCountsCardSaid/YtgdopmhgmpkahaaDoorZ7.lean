/-
  Texts of this claim, put together.
-/
import Derived.Test.YtgdopmhgmpkahaaDoorZ6
/-
  alloc: names, free, needs, gets: the code.
-/
namespace Go.Proofs.YtgdopmhgmpkahaaDoor
open Go.RowKit
set_option linter.unusedVariables false
set_option linter.unusedSimpArgs false

theorem encInts_eq (l : List Int) : encInts l = .list (l.map encI) := rfl
theorem alloc_move_ok (d a : Int) : Pure Tryd.prog 24 [.int .i64 d, .int .i64 a] (insA (movI d a)) := by
  intro H
  refine ACalls.go alloc_move.low (by simp) fun hcl => ?_
  have e : movI d a = ⟨2, d, a, 0, 0, 0⟩ := rfl
  rw [e]
  repeat' (first | simp only [seval, evx, beq_self_eq_true, encB_def, encN_def, sb, insA, encIns, ins_dec, ins_eta, encInts_eq, encI_def, List.map_nil, List.map_cons, *] | simp (disch := omega) only [if_pos, if_neg] | refine R.seq ?_ | refine LCB.text ?_ | refine LCB.quiet rfl ?_ | refine R.anyX ?_ | refine R.block ?_ | refine LCB.skip ?_ | refine LCB.exit ?_ | refine LCB.ret ?_ | ((first | refine RetOk.val hcl ?_ | refine Weak.at hcl ?_); simp only [seval, evw, List.forall_mem_cons, List.forall_mem_map, List.forall_mem_append, List.not_mem_nil, encB_def, encN_def, sb, insA, encIns, ins_dec, ins_eta, encInts_eq, encI_def, List.map_nil, List.map_cons, *]) | ((first | refine LCB.cond (by simp only [seval, evx] <;> rfl) ?_ ?_ | refine wpG_split (by simp only [seval, evx] <;> rfl) ?_ ?_ | refine wxG_split (by simp only [seval, evx] <;> rfl) ?_ ?_) <;> (intro hc; try simp only [seval, nf] at hc)) | refine ACalls.inst ?_ | refine CallX.inst ?_ | (with_reducible refine And.intro ?_ ?_) | exact True.intro)
theorem alloc_names_ok (x : Ins) : Pure Tryd.prog 38 [insA x] (encInts (namesL x)) := by
  intro H
  refine ACalls.go alloc_names.low (by simp) fun hcl => ?_
  rw [insA_eq]
  by_cases h1 : x.op = 1
  · have e : namesL x = [x.d] := by unfold namesL; rw [if_pos h1]
    repeat' (first | simp only [seval, evx, beq_self_eq_true, encB_def, encN_def, sb, insA, encIns, ins_dec, ins_eta, encInts_eq, encI_def, List.map_nil, List.map_cons, *] | simp (disch := omega) only [if_pos, if_neg] | refine R.seq ?_ | refine LCB.text ?_ | refine LCB.quiet rfl ?_ | refine R.anyX ?_ | refine R.block ?_ | refine LCB.skip ?_ | refine LCB.exit ?_ | refine LCB.ret ?_ | ((first | refine RetOk.val hcl ?_ | refine Weak.at hcl ?_); simp only [seval, evw, List.forall_mem_cons, List.forall_mem_map, List.forall_mem_append, List.not_mem_nil, encB_def, encN_def, sb, insA, encIns, ins_dec, ins_eta, encInts_eq, encI_def, List.map_nil, List.map_cons, *]) | ((first | refine LCB.cond (by simp only [seval, evx] <;> rfl) ?_ ?_ | refine wpG_split (by simp only [seval, evx] <;> rfl) ?_ ?_ | refine wxG_split (by simp only [seval, evx] <;> rfl) ?_ ?_) <;> (intro hc; try simp only [seval, nf] at hc)) | refine ACalls.inst ?_ | refine CallX.inst ?_ | (with_reducible refine And.intro ?_ ?_) | exact True.intro)
  by_cases h2 : x.op = 2
  · have e : namesL x = [x.d, x.a] := by unfold namesL; rw [if_neg h1, if_pos (.inl h2)]
    repeat' (first | simp only [seval, evx, beq_self_eq_true, encB_def, encN_def, sb, insA, encIns, ins_dec, ins_eta, encInts_eq, encI_def, List.map_nil, List.map_cons, *] | simp (disch := omega) only [if_pos, if_neg] | refine R.seq ?_ | refine LCB.text ?_ | refine LCB.quiet rfl ?_ | refine R.anyX ?_ | refine R.block ?_ | refine LCB.skip ?_ | refine LCB.exit ?_ | refine LCB.ret ?_ | ((first | refine RetOk.val hcl ?_ | refine Weak.at hcl ?_); simp only [seval, evw, List.forall_mem_cons, List.forall_mem_map, List.forall_mem_append, List.not_mem_nil, encB_def, encN_def, sb, insA, encIns, ins_dec, ins_eta, encInts_eq, encI_def, List.map_nil, List.map_cons, *]) | ((first | refine LCB.cond (by simp only [seval, evx] <;> rfl) ?_ ?_ | refine wpG_split (by simp only [seval, evx] <;> rfl) ?_ ?_ | refine wxG_split (by simp only [seval, evx] <;> rfl) ?_ ?_) <;> (intro hc; try simp only [seval, nf] at hc)) | refine ACalls.inst ?_ | refine CallX.inst ?_ | (with_reducible refine And.intro ?_ ?_) | exact True.intro)
  by_cases h3 : x.op = 3
  · have e : namesL x = [x.d, x.a] := by unfold namesL; rw [if_neg h1, if_pos (.inr h3)]
    repeat' (first | simp only [seval, evx, beq_self_eq_true, encB_def, encN_def, sb, insA, encIns, ins_dec, ins_eta, encInts_eq, encI_def, List.map_nil, List.map_cons, *] | simp (disch := omega) only [if_pos, if_neg] | refine R.seq ?_ | refine LCB.text ?_ | refine LCB.quiet rfl ?_ | refine R.anyX ?_ | refine R.block ?_ | refine LCB.skip ?_ | refine LCB.exit ?_ | refine LCB.ret ?_ | ((first | refine RetOk.val hcl ?_ | refine Weak.at hcl ?_); simp only [seval, evw, List.forall_mem_cons, List.forall_mem_map, List.forall_mem_append, List.not_mem_nil, encB_def, encN_def, sb, insA, encIns, ins_dec, ins_eta, encInts_eq, encI_def, List.map_nil, List.map_cons, *]) | ((first | refine LCB.cond (by simp only [seval, evx] <;> rfl) ?_ ?_ | refine wpG_split (by simp only [seval, evx] <;> rfl) ?_ ?_ | refine wxG_split (by simp only [seval, evx] <;> rfl) ?_ ?_) <;> (intro hc; try simp only [seval, nf] at hc)) | refine ACalls.inst ?_ | refine CallX.inst ?_ | (with_reducible refine And.intro ?_ ?_) | exact True.intro)
  · have e : namesL x = [] := by unfold namesL; rw [if_neg h1, if_neg (by simp [h2, h3])]
    repeat' (first | simp only [seval, evx, beq_self_eq_true, encB_def, encN_def, sb, insA, encIns, ins_dec, ins_eta, encInts_eq, encI_def, List.map_nil, List.map_cons, *] | simp (disch := omega) only [if_pos, if_neg] | refine R.seq ?_ | refine LCB.text ?_ | refine LCB.quiet rfl ?_ | refine R.anyX ?_ | refine R.block ?_ | refine LCB.skip ?_ | refine LCB.exit ?_ | refine LCB.ret ?_ | ((first | refine RetOk.val hcl ?_ | refine Weak.at hcl ?_); simp only [seval, evw, List.forall_mem_cons, List.forall_mem_map, List.forall_mem_append, List.not_mem_nil, encB_def, encN_def, sb, insA, encIns, ins_dec, ins_eta, encInts_eq, encI_def, List.map_nil, List.map_cons, *]) | ((first | refine LCB.cond (by simp only [seval, evx] <;> rfl) ?_ ?_ | refine wpG_split (by simp only [seval, evx] <;> rfl) ?_ ?_ | refine wxG_split (by simp only [seval, evx] <;> rfl) ?_ ?_) <;> (intro hc; try simp only [seval, nf] at hc)) | refine ACalls.inst ?_ | refine CallX.inst ?_ | (with_reducible refine And.intro ?_ ?_) | exact True.intro)
theorem alloc_needs_ok (x : Ins) : Pure Tryd.prog 26 [insA x] (encInts (needsL x)) := by
  intro H
  refine ACalls.go alloc_needs.low (by simp) fun hcl => ?_
  have hn := ins_Uses_ok x
  rw [insA_eq] at *
  replace hn := Hold.mk hn
  by_cases h2 : x.op = 2
  · have e : needsL x = [x.a] := by unfold needsL; rw [if_pos h2]
    repeat' (first | simp only [seval, evx, beq_self_eq_true, encB_def, encN_def, sb, insA, encIns, ins_dec, ins_eta, encInts_eq, encI_def, List.map_nil, List.map_cons, *] | simp (disch := omega) only [if_pos, if_neg] | refine R.seq ?_ | refine LCB.text ?_ | refine LCB.quiet rfl ?_ | refine R.anyX ?_ | refine R.block ?_ | refine LCB.skip ?_ | refine LCB.exit ?_ | refine LCB.ret ?_ | ((first | refine RetOk.val hcl ?_ | refine Weak.at hcl ?_); simp only [seval, evw, List.forall_mem_cons, List.forall_mem_map, List.forall_mem_append, List.not_mem_nil, encB_def, encN_def, sb, insA, encIns, ins_dec, ins_eta, encInts_eq, encI_def, List.map_nil, List.map_cons, *]) | ((first | refine LCB.cond (by simp only [seval, evx] <;> rfl) ?_ ?_ | refine wpG_split (by simp only [seval, evx] <;> rfl) ?_ ?_ | refine wxG_split (by simp only [seval, evx] <;> rfl) ?_ ?_) <;> (intro hc; try simp only [seval, nf] at hc)) | refine ACalls.inst ?_ | refine CallX.inst ?_ | (with_reducible refine And.intro ?_ ?_) | exact True.intro | refine CallX.pure hn.of ?_ | refine ACalls.pure hn.of ?_)
  by_cases h3 : x.op = 3
  · have e : needsL x = [x.d, x.a] := by unfold needsL; rw [if_neg h2, if_pos h3]
    repeat' (first | simp only [seval, evx, beq_self_eq_true, encB_def, encN_def, sb, insA, encIns, ins_dec, ins_eta, encInts_eq, encI_def, List.map_nil, List.map_cons, *] | simp (disch := omega) only [if_pos, if_neg] | refine R.seq ?_ | refine LCB.text ?_ | refine LCB.quiet rfl ?_ | refine R.anyX ?_ | refine R.block ?_ | refine LCB.skip ?_ | refine LCB.exit ?_ | refine LCB.ret ?_ | ((first | refine RetOk.val hcl ?_ | refine Weak.at hcl ?_); simp only [seval, evw, List.forall_mem_cons, List.forall_mem_map, List.forall_mem_append, List.not_mem_nil, encB_def, encN_def, sb, insA, encIns, ins_dec, ins_eta, encInts_eq, encI_def, List.map_nil, List.map_cons, *]) | ((first | refine LCB.cond (by simp only [seval, evx] <;> rfl) ?_ ?_ | refine wpG_split (by simp only [seval, evx] <;> rfl) ?_ ?_ | refine wxG_split (by simp only [seval, evx] <;> rfl) ?_ ?_) <;> (intro hc; try simp only [seval, nf] at hc)) | refine ACalls.inst ?_ | refine CallX.inst ?_ | (with_reducible refine And.intro ?_ ?_) | exact True.intro | refine CallX.pure hn.of ?_ | refine ACalls.pure hn.of ?_)
  · have e : needsL x = usesL x := by unfold needsL; rw [if_neg h2, if_neg h3]
    repeat' (first | simp only [seval, evx, beq_self_eq_true, encB_def, encN_def, sb, insA, encIns, ins_dec, ins_eta, encInts_eq, encI_def, List.map_nil, List.map_cons, *] | simp (disch := omega) only [if_pos, if_neg] | refine R.seq ?_ | refine LCB.text ?_ | refine LCB.quiet rfl ?_ | refine R.anyX ?_ | refine R.block ?_ | refine LCB.skip ?_ | refine LCB.exit ?_ | refine LCB.ret ?_ | ((first | refine RetOk.val hcl ?_ | refine Weak.at hcl ?_); simp only [seval, evw, List.forall_mem_cons, List.forall_mem_map, List.forall_mem_append, List.not_mem_nil, encB_def, encN_def, sb, insA, encIns, ins_dec, ins_eta, encInts_eq, encI_def, List.map_nil, List.map_cons, *]) | ((first | refine LCB.cond (by simp only [seval, evx] <;> rfl) ?_ ?_ | refine wpG_split (by simp only [seval, evx] <;> rfl) ?_ ?_ | refine wxG_split (by simp only [seval, evx] <;> rfl) ?_ ?_) <;> (intro hc; try simp only [seval, nf] at hc)) | refine ACalls.inst ?_ | refine CallX.inst ?_ | (with_reducible refine And.intro ?_ ?_) | exact True.intro | refine CallX.pure hn.of ?_ | refine ACalls.pure hn.of ?_)
theorem alloc_gets_ok (x : Ins) : Pure Tryd.prog 27 [insA x] (encInts (getsL x)) := by
  intro H
  refine ACalls.go alloc_gets.low (by simp) fun hcl => ?_
  have hn := alloc_names_ok x
  have hs := ins_Sets_ok x
  unfold setsA at hs
  rw [insA_eq] at *
  by_cases h1 : x.op = 1
  · have e : getsL x = [x.d] := by unfold getsL; rw [if_pos (.inl h1)]
    have e2 : namesL x = [x.d] := by unfold namesL; rw [if_pos h1]
    rw [e2, h1] at hn
    replace hn := Hold.mk hn
    replace hs := Hold.mk hs
    have e3 : (1 : Int).tdiv 3 = 0 := by decide
    have e4 : IntKind.i64.wrap 0 = 0 := by decide
    have e5 : IntKind.i64.wrap 1 = 1 := by decide
    repeat' (first | simp only [seval, evx, beq_self_eq_true, encB_def, encN_def, sb, insA, encIns, ins_dec, ins_eta, encInts_eq, encI_def, List.map_nil, List.map_cons, *] | simp (disch := omega) only [if_pos, if_neg] | refine R.seq ?_ | refine LCB.text ?_ | refine LCB.quiet rfl ?_ | refine R.anyX ?_ | refine R.block ?_ | refine LCB.skip ?_ | refine LCB.exit ?_ | refine LCB.ret ?_ | ((first | refine RetOk.val hcl ?_ | refine Weak.at hcl ?_); simp only [seval, evw, List.forall_mem_cons, List.forall_mem_map, List.forall_mem_append, List.not_mem_nil, encB_def, encN_def, sb, insA, encIns, ins_dec, ins_eta, encInts_eq, encI_def, List.map_nil, List.map_cons, *]) | ((first | refine LCB.cond (by simp only [seval, evx] <;> rfl) ?_ ?_ | refine wpG_split (by simp only [seval, evx] <;> rfl) ?_ ?_ | refine wxG_split (by simp only [seval, evx] <;> rfl) ?_ ?_) <;> (intro hc; try simp only [seval, nf] at hc)) | refine ACalls.inst ?_ | refine CallX.inst ?_ | (with_reducible refine And.intro ?_ ?_) | exact True.intro | refine CallX.pure hn.of ?_ | refine ACalls.pure hn.of ?_)
  by_cases h2 : x.op = 2
  · have e : getsL x = [x.d] := by unfold getsL; rw [if_pos (.inr h2)]
    have e2 : namesL x = [x.d, x.a] := by unfold namesL; rw [if_neg h1, if_pos (.inl h2)]
    rw [e2, h2] at hn
    replace hn := Hold.mk hn
    replace hs := Hold.mk hs
    have e3 : (2 : Int).tdiv 3 = 0 := by decide
    have e4 : IntKind.i64.wrap 0 = 0 := by decide
    have e5 : IntKind.i64.wrap 1 = 1 := by decide
    repeat' (first | simp only [seval, evx, beq_self_eq_true, encB_def, encN_def, sb, insA, encIns, ins_dec, ins_eta, encInts_eq, encI_def, List.map_nil, List.map_cons, *] | simp (disch := omega) only [if_pos, if_neg] | refine R.seq ?_ | refine LCB.text ?_ | refine LCB.quiet rfl ?_ | refine R.anyX ?_ | refine R.block ?_ | refine LCB.skip ?_ | refine LCB.exit ?_ | refine LCB.ret ?_ | ((first | refine RetOk.val hcl ?_ | refine Weak.at hcl ?_); simp only [seval, evw, List.forall_mem_cons, List.forall_mem_map, List.forall_mem_append, List.not_mem_nil, encB_def, encN_def, sb, insA, encIns, ins_dec, ins_eta, encInts_eq, encI_def, List.map_nil, List.map_cons, *]) | ((first | refine LCB.cond (by simp only [seval, evx] <;> rfl) ?_ ?_ | refine wpG_split (by simp only [seval, evx] <;> rfl) ?_ ?_ | refine wxG_split (by simp only [seval, evx] <;> rfl) ?_ ?_) <;> (intro hc; try simp only [seval, nf] at hc)) | refine ACalls.inst ?_ | refine CallX.inst ?_ | (with_reducible refine And.intro ?_ ?_) | exact True.intro | refine CallX.pure hn.of ?_ | refine ACalls.pure hn.of ?_)
  by_cases h3 : x.op = 3
  · have e : getsL x = [x.d, x.a] := by unfold getsL; rw [if_neg (by omega), if_pos h3]
    have e2 : namesL x = [x.d, x.a] := by unfold namesL; rw [if_neg h1, if_pos (.inr h3)]
    rw [e2, h3] at hn
    replace hn := Hold.mk hn
    replace hs := Hold.mk hs
    have e3 : (3 : Int).tdiv 3 = 1 := by decide
    have e4 : IntKind.i64.wrap 1 = 1 := by decide
    have e5 : IntKind.i64.wrap 2 = 2 := by decide
    repeat' (first | simp only [seval, evx, beq_self_eq_true, encB_def, encN_def, sb, insA, encIns, ins_dec, ins_eta, encInts_eq, encI_def, List.map_nil, List.map_cons, *] | simp (disch := omega) only [if_pos, if_neg] | refine R.seq ?_ | refine LCB.text ?_ | refine LCB.quiet rfl ?_ | refine R.anyX ?_ | refine R.block ?_ | refine LCB.skip ?_ | refine LCB.exit ?_ | refine LCB.ret ?_ | ((first | refine RetOk.val hcl ?_ | refine Weak.at hcl ?_); simp only [seval, evw, List.forall_mem_cons, List.forall_mem_map, List.forall_mem_append, List.not_mem_nil, encB_def, encN_def, sb, insA, encIns, ins_dec, ins_eta, encInts_eq, encI_def, List.map_nil, List.map_cons, *]) | ((first | refine LCB.cond (by simp only [seval, evx] <;> rfl) ?_ ?_ | refine wpG_split (by simp only [seval, evx] <;> rfl) ?_ ?_ | refine wxG_split (by simp only [seval, evx] <;> rfl) ?_ ?_) <;> (intro hc; try simp only [seval, nf] at hc)) | refine ACalls.inst ?_ | refine CallX.inst ?_ | (with_reducible refine And.intro ?_ ?_) | exact True.intro | refine CallX.pure hn.of ?_ | refine ACalls.pure hn.of ?_)
  · clear hn
    cases hb : setsB x.op
    · have e : getsL x = [] := by unfold getsL; rw [if_neg (by omega), if_neg h3, hb]; rfl
      rw [hb] at hs
      have hn := Hold.mk hs
      clear hs
      repeat' (first | simp only [seval, evx, beq_self_eq_true, encB_def, encN_def, sb, insA, encIns, ins_dec, ins_eta, encInts_eq, encI_def, List.map_nil, List.map_cons, *] | simp (disch := omega) only [if_pos, if_neg] | refine R.seq ?_ | refine LCB.text ?_ | refine LCB.quiet rfl ?_ | refine R.anyX ?_ | refine R.block ?_ | refine LCB.skip ?_ | refine LCB.exit ?_ | refine LCB.ret ?_ | ((first | refine RetOk.val hcl ?_ | refine Weak.at hcl ?_); simp only [seval, evw, List.forall_mem_cons, List.forall_mem_map, List.forall_mem_append, List.not_mem_nil, encB_def, encN_def, sb, insA, encIns, ins_dec, ins_eta, encInts_eq, encI_def, List.map_nil, List.map_cons, *]) | ((first | refine LCB.cond (by simp only [seval, evx] <;> rfl) ?_ ?_ | refine wpG_split (by simp only [seval, evx] <;> rfl) ?_ ?_ | refine wxG_split (by simp only [seval, evx] <;> rfl) ?_ ?_) <;> (intro hc; try simp only [seval, nf] at hc)) | refine ACalls.inst ?_ | refine CallX.inst ?_ | (with_reducible refine And.intro ?_ ?_) | exact True.intro | refine CallX.pure hn.of ?_ | refine ACalls.pure hn.of ?_)
    · have e : getsL x = [x.d] := by unfold getsL; rw [if_neg (by omega), if_neg h3, hb]; rfl
      rw [hb] at hs
      have hn := Hold.mk hs
      clear hs
      repeat' (first | simp only [seval, evx, beq_self_eq_true, encB_def, encN_def, sb, insA, encIns, ins_dec, ins_eta, encInts_eq, encI_def, List.map_nil, List.map_cons, *] | simp (disch := omega) only [if_pos, if_neg] | refine R.seq ?_ | refine LCB.text ?_ | refine LCB.quiet rfl ?_ | refine R.anyX ?_ | refine R.block ?_ | refine LCB.skip ?_ | refine LCB.exit ?_ | refine LCB.ret ?_ | ((first | refine RetOk.val hcl ?_ | refine Weak.at hcl ?_); simp only [seval, evw, List.forall_mem_cons, List.forall_mem_map, List.forall_mem_append, List.not_mem_nil, encB_def, encN_def, sb, insA, encIns, ins_dec, ins_eta, encInts_eq, encI_def, List.map_nil, List.map_cons, *]) | ((first | refine LCB.cond (by simp only [seval, evx] <;> rfl) ?_ ?_ | refine wpG_split (by simp only [seval, evx] <;> rfl) ?_ ?_ | refine wxG_split (by simp only [seval, evx] <;> rfl) ?_ ?_) <;> (intro hc; try simp only [seval, nf] at hc)) | refine ACalls.inst ?_ | refine CallX.inst ?_ | (with_reducible refine And.intro ?_ ?_) | exact True.intro | refine CallX.pure hn.of ?_ | refine ACalls.pure hn.of ?_)
theorem getD_encI' {l : List Int} {j : Nat} (h : j < l.length) : (l.map encI).getD j [] = [.int .i64 (l.getD j 0)] := by
  simp [List.getD, h, encI]
theorem alloc_once_ok (l : List Int) : Pure Tryd.prog 25 [encInts l] (encInts (onceL l)) := by
  intro H
  refine ACalls.go alloc_once.low (by simp) fun hcl => ?_
  have hne : l.map encI = [] ∨ ((l.map encI).headD []).length = 1 := by cases l <;> simp [encI]
  by_cases h2 : l.length = 2
  · have e1 : (l.length : Int) = 2 := by omega
    have g0 := getD_encI' (l := l) (j := 0) (by omega)
    have g1 := getD_encI' (l := l) (j := 1) (by omega)
    have e2 : (0 : Int) < (l.length : Int) := by omega
    have e3 : (1 : Int) < (l.length : Int) := by omega
    by_cases hq : l.getD 0 0 = l.getD 1 0
    · have e : onceL l = l.take 1 := by unfold onceL; rw [if_pos ⟨h2, hq⟩]
      have t1 : (l.take 1).map encI = (l.map encI).take 1 := List.map_take
      repeat' (first | simp only [seval, evx, beq_self_eq_true, encB_def, encN_def, sb, insA, encIns, ins_dec, ins_eta, encInts_eq, encI_def, List.map_nil, List.map_cons, *] | simp (disch := omega) only [if_pos, if_neg] | refine R.seq ?_ | refine LCB.text ?_ | refine LCB.quiet rfl ?_ | refine R.anyX ?_ | refine R.block ?_ | refine LCB.skip ?_ | refine LCB.exit ?_ | refine LCB.ret ?_ | ((first | refine RetOk.val hcl ?_ | refine Weak.at hcl ?_); simp only [seval, evw, List.forall_mem_cons, List.forall_mem_map, List.forall_mem_append, List.not_mem_nil, encB_def, encN_def, sb, insA, encIns, ins_dec, ins_eta, encInts_eq, encI_def, List.map_nil, List.map_cons, *]) | ((first | refine LCB.cond (by simp only [seval, evx] <;> rfl) ?_ ?_ | refine wpG_split (by simp only [seval, evx] <;> rfl) ?_ ?_ | refine wxG_split (by simp only [seval, evx] <;> rfl) ?_ ?_) <;> (intro hc; try simp only [seval, nf] at hc)) | refine ACalls.inst ?_ | refine CallX.inst ?_ | (with_reducible refine And.intro ?_ ?_) | exact True.intro | refine CallX.pure hn.of ?_ | refine ACalls.pure hn.of ?_)
    · have e : onceL l = l := by unfold onceL; rw [if_neg fun h => hq h.2]
      repeat' (first | simp only [seval, evx, beq_self_eq_true, encB_def, encN_def, sb, insA, encIns, ins_dec, ins_eta, encInts_eq, encI_def, List.map_nil, List.map_cons, *] | simp (disch := omega) only [if_pos, if_neg] | refine R.seq ?_ | refine LCB.text ?_ | refine LCB.quiet rfl ?_ | refine R.anyX ?_ | refine R.block ?_ | refine LCB.skip ?_ | refine LCB.exit ?_ | refine LCB.ret ?_ | ((first | refine RetOk.val hcl ?_ | refine Weak.at hcl ?_); simp only [seval, evw, List.forall_mem_cons, List.forall_mem_map, List.forall_mem_append, List.not_mem_nil, encB_def, encN_def, sb, insA, encIns, ins_dec, ins_eta, encInts_eq, encI_def, List.map_nil, List.map_cons, *]) | ((first | refine LCB.cond (by simp only [seval, evx] <;> rfl) ?_ ?_ | refine wpG_split (by simp only [seval, evx] <;> rfl) ?_ ?_ | refine wxG_split (by simp only [seval, evx] <;> rfl) ?_ ?_) <;> (intro hc; try simp only [seval, nf] at hc)) | refine ACalls.inst ?_ | refine CallX.inst ?_ | (with_reducible refine And.intro ?_ ?_) | exact True.intro | refine CallX.pure hn.of ?_ | refine ACalls.pure hn.of ?_)
  · have e : onceL l = l := by unfold onceL; rw [if_neg fun h => h2 h.1]
    have e1 : ¬ (l.length : Int) = 2 := by omega
    repeat' (first | simp only [seval, evx, beq_self_eq_true, encB_def, encN_def, sb, insA, encIns, ins_dec, ins_eta, encInts_eq, encI_def, List.map_nil, List.map_cons, *] | simp (disch := omega) only [if_pos, if_neg] | refine R.seq ?_ | refine LCB.text ?_ | refine LCB.quiet rfl ?_ | refine R.anyX ?_ | refine R.block ?_ | refine LCB.skip ?_ | refine LCB.exit ?_ | refine LCB.ret ?_ | ((first | refine RetOk.val hcl ?_ | refine Weak.at hcl ?_); simp only [seval, evw, List.forall_mem_cons, List.forall_mem_map, List.forall_mem_append, List.not_mem_nil, encB_def, encN_def, sb, insA, encIns, ins_dec, ins_eta, encInts_eq, encI_def, List.map_nil, List.map_cons, *]) | ((first | refine LCB.cond (by simp only [seval, evx] <;> rfl) ?_ ?_ | refine wpG_split (by simp only [seval, evx] <;> rfl) ?_ ?_ | refine wxG_split (by simp only [seval, evx] <;> rfl) ?_ ?_) <;> (intro hc; try simp only [seval, nf] at hc)) | refine ACalls.inst ?_ | refine CallX.inst ?_ | (with_reducible refine And.intro ?_ ?_) | exact True.intro | refine CallX.pure hn.of ?_ | refine ACalls.pure hn.of ?_)
end Go.Proofs.YtgdopmhgmpkahaaDoor

/-
  alloc: which places are free: the code.
-/
namespace Go.Proofs.YtgdopmhgmpkahaaDoor
open Go.RowKit
set_option linter.unusedVariables false
set_option linter.unusedSimpArgs false

def bc (B : List Bool) : List AV := B.map AV.bool
theorem bc_len (B : List Bool) : (bc B).length = B.length := by simp [bc]
theorem bc_clean (m : Nat) : ∀ B : List Bool, cleanAll m (bc B) = true
  | [] => rfl
  | b :: B => by rw [show bc (b :: B) = .bool b :: bc B from rfl, cleanAll, bc_clean m B]; rfl
theorem cl_bc {m : Nat} {B : List Bool} : cleanAll m (bc B) = true := bc_clean m B
theorem ac_bc : ∀ B : List Bool, allCells (bc B) = true
  | [] => rfl
  | b :: B => by rw [show bc (b :: B) = .bool b :: bc B from rfl, ac_cons, ac_bc B]; rfl
theorem ac_bc0 {B : List Bool} : allCells (bc B) = true := ac_bc B
theorem bc_get {B : List Bool} {i : Nat} (h : i < B.length) : (bc B)[i]? = some (.bool (B.getD i false)) := by
  unfold bc
  rw [List.getElem?_map, List.getElem?_eq_getElem h]
  simp [List.getD, h]
theorem bc_set {B : List Bool} {i : Nat} {b : Bool} (h : i < B.length) : (bc B).take i ++ .bool b :: (bc B).drop (i + 1) = bc (B.set i b) := by
  unfold bc
  rw [List.map_set, List.set_eq_take_append_cons_drop, if_pos (by simpa using h)]
theorem bc_set2 {B : List Bool} {i : Nat} {b : Bool} (h : i < B.length) : (bc B).take i ++ [.bool b] ++ (bc B).drop (i + 1) = bc (B.set i b) := by
  rw [← bc_set h]; simp
theorem bc_take {B : List Bool} {n : Nat} (h : B.length = n) : (bc B).take n = bc B := by
  rw [List.take_of_length_le]; rw [bc_len]; omega
theorem vws_bc {H : List AObj} {m : Nat} {B : List Bool} : Views H m (bc B) (bc B) = True := vws_same (bc_clean m B)
theorem eb : type_of% (And.intro @cl_bc (And.intro @ac_bc0 (@vws_bc))) :=
  And.intro @cl_bc (And.intro @ac_bc0 (@vws_bc))

theorem names_len (x : Ins) : (namesL x).length ≤ 2 := by unfold namesL; split; simp; split <;> simp
def trueB (i : Nat) : List Bool := (List.range 24).map fun j => decide (j < i)
theorem trueB_len (i : Nat) : (trueB i).length = 24 := by simp [trueB]
theorem trueB_set {i : Nat} (h : i < 24) : (trueB i).set i true = trueB (i + 1) := by
  apply List.ext_getElem
  · simp [trueB]
  · intro j h1 h2
    simp only [trueB, List.getElem_set, List.getElem_map, List.getElem_range]
    split
    · rename_i e; subst e; simp
    · rename_i e
      exact decide_eq_decide.2 (by omega)
theorem trueB_all : trueB 24 = List.replicate 24 true := by decide
theorem bc_zero : [AV.bool false, .bool false, .bool false, .bool false, .bool false, .bool false, .bool false, .bool false, .bool false, .bool false, .bool false, .bool false, .bool false, .bool false, .bool false, .bool false, .bool false, .bool false, .bool false, .bool false, .bool false, .bool false, .bool false, .bool false] = bc (trueB 0) := rfl
def arrB (B : List Bool) : AV := .agg (bc B)
theorem arrB_eq (B : List Bool) : arrB B = .agg (bc B) := rfl
set_option maxHeartbeats 4000000 in
theorem alloc_free_ok (f : List Ins) (hf : fnOk f = true) : Pure Tryd.prog 22 [encFn f] (arrB (freeB f)) := by
  intro H
  refine ACalls.go alloc_free.low (by simp) fun hcl => ?_
  obtain ⟨k1, k2, k3, k4⟩ := fnOk_iff.1 hf
  have hnm : ∀ x ∈ f, ∀ a ∈ namesL x, 0 ≤ a ∧ a < 24 := fun x hx => names_in (k3 x hx)
  clear k3 k4 hf
  unfold encFn
  rw [arrB_eq]
  have bl0 : (bc (trueB 0)).length = 24 := rfl
  replace hnm := Hold.mk hnm
  (refine R.seq ?_; refine LCB.text ?_; repeat' (first | simp only [seval, evo, beq_self_eq_true, encB_def, encN_def, sb, eb, insA, encIns, ins_dec, ins_eta, encInts_eq, bc_zero, List.append_nil, *] | simp (disch := omega) only [if_pos, if_neg]))
  (refine R.seq ?_; refine LCB.text ?_; repeat' (first | simp only [seval, evo, beq_self_eq_true, encB_def, encN_def, sb, eb, insA, encIns, ins_dec, ins_eta, encInts_eq, bc_zero, List.append_nil, *] | simp (disch := omega) only [if_pos, if_neg]))
  refine R.cut [(0, .list (f.map encIns)), (2, .ptr H.length 1 0 0), (3, .ptr (H.length + 1) 1 0 0)] (H ++ [.vec 24 [bc (trueB 0)], .vec 24 [bc (trueB 24)]]) ?_ ?_
  · repeat' (first | simp only [seval, evx, beq_self_eq_true, encB_def, encN_def, sb, eb, insA, encIns, ins_dec, ins_eta, encInts_eq, bc_zero, List.append_nil, *] | simp (disch := omega) only [if_pos, if_neg] | refine R.seq ?_ | refine LCB.text ?_ | refine LCB.quiet rfl ?_ | refine R.anyX ?_ | refine R.block ?_ | refine LCB.skip ?_ | refine LCB.exit ?_ | refine LCB.ret ?_ | ((first | refine RetOk.val hcl ?_ | refine Weak.at hcl ?_); simp only [seval, evw, List.forall_mem_cons, List.forall_mem_map, List.forall_mem_append, List.not_mem_nil, encB_def, encN_def, sb, eb, insA, encIns, ins_dec, ins_eta, encInts_eq, bc_zero, List.append_nil, *]) | ((first | refine LCB.cond (by simp only [seval, evx] <;> rfl) ?_ ?_ | refine wpG_split (by simp only [seval, evx] <;> rfl) ?_ ?_ | refine wxG_split (by simp only [seval, evx] <;> rfl) ?_ ?_) <;> (intro hc; try simp only [seval, nf] at hc)) | refine ACalls.inst ?_ | refine CallX.inst ?_ | (with_reducible refine And.intro ?_ ?_) | exact True.intro)
    refine R.loop (S := Nat) ⟨fun i => [(0, .list (f.map encIns)), (2, .ptr H.length 1 0 0), (3, .ptr (H.length + 1) 1 0 0), (9, .int .i64 (i : Int))], fun i => H ++ [.vec 24 [bc (trueB 0)], .vec 24 [bc (trueB i)]], fun i => i ≤ 24, fun i => 24 - i⟩ 0 (Nat.zero_le _) (Weak.at hcl ?_) ?_
    · simp only [seval, evw, List.forall_mem_cons, List.forall_mem_map, List.forall_mem_append, List.not_mem_nil, encB_def, encN_def, sb, eb, insA, encIns, ins_dec, ins_eta, encInts_eq, bc_zero, List.append_nil, *]
    intro i hi
    simp only at hi ⊢
    by_cases hlt : i < 24
    · have e1 : (i : Int) < 24 := by omega
      have e2 : (i : Int) < ((24 : Nat) : Int) := by omega
      have e3 : IntKind.i64.wrap ((i : Int) + 1) = ((i + 1 : Nat) : Int) := by rw [IntKind.wrap_i64]; omega
      have bl : (bc (trueB i)).length = 24 := by rw [bc_len, trueB_len]
      have bs1 := bc_set (B := trueB i) (i := i) (b := true) (by rw [trueB_len]; exact hlt)
      have bs2 := bc_set2 (B := trueB i) (i := i) (b := true) (by rw [trueB_len]; exact hlt)
      have bl2 : (bc (trueB (i + 1))).length = 24 := by rw [bc_len, trueB_len]
      rw [trueB_set hlt] at bs1 bs2
      have e4 : i + 1 ≤ 24 := hlt
      repeat' (first | simp only [seval, evx, beq_self_eq_true, encB_def, encN_def, sb, eb, insA, encIns, ins_dec, ins_eta, encInts_eq, bc_zero, List.append_nil, *] | simp (disch := omega) only [if_pos, if_neg] | refine R.seq ?_ | refine LCB.text ?_ | refine LCB.quiet rfl ?_ | refine R.anyX ?_ | refine R.block ?_ | refine LCB.skip ?_ | refine LCB.exit ?_ | refine LCB.ret ?_ | ((first | refine RetOk.val hcl ?_ | refine Weak.at hcl ?_); simp only [seval, evw, List.forall_mem_cons, List.forall_mem_map, List.forall_mem_append, List.not_mem_nil, encB_def, encN_def, sb, eb, insA, encIns, ins_dec, ins_eta, encInts_eq, bc_zero, List.append_nil, *]) | ((first | refine LCB.cond (by simp only [seval, evx] <;> rfl) ?_ ?_ | refine wpG_split (by simp only [seval, evx] <;> rfl) ?_ ?_ | refine wxG_split (by simp only [seval, evx] <;> rfl) ?_ ?_) <;> (intro hc; try simp only [seval, nf] at hc)) | refine ACalls.inst ?_ | refine CallX.inst ?_ | (with_reducible refine And.intro ?_ ?_) | exact True.intro)
      refine ⟨i + 1, hlt, by simp only; omega, Weak.at hcl ?_⟩
      simp only [seval, evw, List.forall_mem_cons, List.forall_mem_map, List.forall_mem_append, List.not_mem_nil, encB_def, encN_def, sb, eb, insA, encIns, ins_dec, ins_eta, encInts_eq, bc_zero, List.append_nil, *]
    · have hie : i = 24 := by omega
      subst hie
      have e1 : ¬ ((24 : Nat) : Int) < 24 := by omega
      repeat' (first | simp only [seval, evx, beq_self_eq_true, encB_def, encN_def, sb, eb, insA, encIns, ins_dec, ins_eta, encInts_eq, bc_zero, List.append_nil, *] | simp (disch := omega) only [if_pos, if_neg] | refine R.seq ?_ | refine LCB.text ?_ | refine LCB.quiet rfl ?_ | refine R.anyX ?_ | refine R.block ?_ | refine LCB.skip ?_ | refine LCB.exit ?_ | refine LCB.ret ?_ | ((first | refine RetOk.val hcl ?_ | refine Weak.at hcl ?_); simp only [seval, evw, List.forall_mem_cons, List.forall_mem_map, List.forall_mem_append, List.not_mem_nil, encB_def, encN_def, sb, eb, insA, encIns, ins_dec, ins_eta, encInts_eq, bc_zero, List.append_nil, *]) | ((first | refine LCB.cond (by simp only [seval, evx] <;> rfl) ?_ ?_ | refine wpG_split (by simp only [seval, evx] <;> rfl) ?_ ?_ | refine wxG_split (by simp only [seval, evx] <;> rfl) ?_ ?_) <;> (intro hc; try simp only [seval, nf] at hc)) | refine ACalls.inst ?_ | refine CallX.inst ?_ | (with_reducible refine And.intro ?_ ?_) | exact True.intro)
  have hfb : freeB f = f.foldl markL (trueB 24) := by unfold freeB; rw [trueB_all]
  rw [hfb]
  have tl := trueB_len 24
  generalize trueB 24 = T at *
  replace hfb := Hold.mk hfb
  refine R.cut [(2, .ptr H.length 1 0 0), (3, .ptr (H.length + 1) 1 0 0)] (H ++ [.vec 24 [bc (trueB 0)], .vec 24 [bc (f.foldl markL T)]]) ?_ ?_
  · (refine R.seq ?_; refine LCB.text ?_; repeat' (first | simp only [seval, evo, beq_self_eq_true, encB_def, encN_def, sb, eb, insA, encIns, ins_dec, ins_eta, encInts_eq, bc_zero, List.append_nil, *] | simp (disch := omega) only [if_pos, if_neg]))
    refine R.block (R.loop (S := Nat × List Bool) ⟨fun y => [(2, .ptr H.length 1 0 0), (3, .ptr (H.length + 1) 1 0 0), (15, .list (f.map encIns)), (16, .int .i64 (f.length : Int)), (17, .int .i64 (y.1 : Int))], fun y => H ++ [.vec 24 [bc (trueB 0)], .vec 24 [bc y.2]],
      fun y => y.1 ≤ f.length ∧ y.2.length = 24 ∧ (f.drop y.1).foldl markL y.2 = f.foldl markL T, fun y => f.length - y.1⟩ (0, T) ⟨Nat.zero_le _, tl, rfl⟩ (Weak.at hcl ?_) ?_)
    · simp only [seval, evw, List.forall_mem_cons, List.forall_mem_map, List.forall_mem_append, List.not_mem_nil, encB_def, encN_def, sb, eb, insA, encIns, ins_dec, ins_eta, encInts_eq, bc_zero, List.append_nil, *]
    rintro ⟨i, B⟩ ⟨hi, hB, hq⟩
    simp only at hi hB hq ⊢
    by_cases hlt : i < f.length
    · have hg := getD_encIns hlt
      rw [drop_ins hlt, List.foldl_cons] at hq
      have e1 : (i : Int) < (f.length : Int) := by omega
      have e3 : IntKind.i64.wrap ((i : Int) + 1) = ((i + 1 : Nat) : Int) := by rw [IntKind.wrap_i64]; omega
      have hn := alloc_names_ok (f.getD i noIns)
      have hm := hnm.of _ (getD_mem hlt)
      have hml := mark_len B (f.getD i noIns)
      have hmd : markL B (f.getD i noIns) = (namesL (f.getD i noIns)).foldl (fun B l => B.set l.toNat false) B := rfl
      generalize markL B (f.getD i noIns) = B2 at *
      generalize f.getD i noIns = x at *
      rw [insA_eq] at hn
      have hll := names_len x
      generalize namesL x = l at *
      replace hll := Hold.mk hll
      replace hq := Hold.mk hq
      replace hm := Hold.mk hm
      replace hmd := Hold.mk hmd
      replace hn := Hold.mk hn
      repeat' (first | simp only [seval, evx, beq_self_eq_true, encB_def, encN_def, sb, eb, insA, encIns, ins_dec, ins_eta, encInts_eq, bc_zero, List.append_nil, *] | simp (disch := omega) only [if_pos, if_neg] | refine R.seq ?_ | refine LCB.text ?_ | refine LCB.quiet rfl ?_ | refine R.anyX ?_ | refine R.block ?_ | refine LCB.skip ?_ | refine LCB.exit ?_ | refine LCB.ret ?_ | ((first | refine RetOk.val hcl ?_ | refine Weak.at hcl ?_); simp only [seval, evw, List.forall_mem_cons, List.forall_mem_map, List.forall_mem_append, List.not_mem_nil, encB_def, encN_def, sb, eb, insA, encIns, ins_dec, ins_eta, encInts_eq, bc_zero, List.append_nil, *]) | ((first | refine LCB.cond (by simp only [seval, evx] <;> rfl) ?_ ?_ | refine wpG_split (by simp only [seval, evx] <;> rfl) ?_ ?_ | refine wxG_split (by simp only [seval, evx] <;> rfl) ?_ ?_) <;> (intro hc; try simp only [seval, nf] at hc)) | refine ACalls.inst ?_ | refine CallX.inst ?_ | (with_reducible refine And.intro ?_ ?_) | exact True.intro | refine CallX.pure hn.of ?_ | refine ACalls.pure hn.of ?_)
      refine R.loop (S := Nat × List Bool) ⟨fun y => [(2, .ptr H.length 1 0 0), (3, .ptr (H.length + 1) 1 0 0), (15, .list (f.map encIns)), (16, .int .i64 (f.length : Int)), (17, .int .i64 (i : Int)), (22, .list (l.map encI)), (23, .int .i64 (l.length : Int)), (24, .int .i64 (y.1 : Int))], fun y => H ++ [.vec 24 [bc (trueB 0)], .vec 24 [bc y.2]],
        fun y => y.1 ≤ l.length ∧ y.2.length = 24 ∧ (l.drop y.1).foldl (fun B l => B.set l.toNat false) y.2 = B2, fun y => l.length - y.1⟩ (0, B) ⟨Nat.zero_le _, hB, hmd.of.symm⟩ (Weak.at hcl ?_) ?_
      · simp only [seval, evw, List.forall_mem_cons, List.forall_mem_map, List.forall_mem_append, List.not_mem_nil, encB_def, encN_def, sb, eb, insA, encIns, ins_dec, ins_eta, encInts_eq, bc_zero, List.append_nil, *]
      rintro ⟨j, C⟩ ⟨hj, hC, hr⟩
      simp only at hj hC hr ⊢
      by_cases hlj : j < l.length
      · have hgj := getD_encI' hlj
        have hdj : l.drop j = l.getD j 0 :: l.drop (j + 1) := by
          rw [List.drop_eq_getElem_cons hlj]
          simp [List.getD, hlj]
        rw [hdj, List.foldl_cons] at hr
        have hmj := hm.of (l.getD j 0) (by simp [List.getD, hlj])
        generalize l.getD j 0 = v at *
        obtain ⟨n, rfl⟩ := Int.eq_ofNat_of_zero_le hmj.1
        have hn24 : n < 24 := by omega
        have g1 : (j : Int) < (l.length : Int) := by omega
        have g3 : IntKind.i64.wrap ((j : Int) + 1) = ((j + 1 : Nat) : Int) := by have := hll.of; rw [IntKind.wrap_i64]; omega
        have bl : (bc C).length = 24 := by rw [bc_len, hC]
        have bs1 := bc_set (B := C) (i := n) (b := false) (by omega)
        have bs2 := bc_set2 (B := C) (i := n) (b := false) (by omega)
        have bl2 : (bc (C.set n false)).length = 24 := by rw [bc_len, List.length_set, hC]
        have hCl : (C.set n false).length = 24 := by rw [List.length_set, hC]
        have e2 : (n : Int) < ((24 : Nat) : Int) := by omega
        have e4 : n + 1 ≤ 24 := hn24
        rw [Int.toNat_natCast] at hr
        replace hr := Hold.mk hr
        replace hmj := Hold.mk hmj
        replace hdj := Hold.mk hdj
        replace hCl := Hold.mk hCl
        repeat' (first | simp only [seval, evx, beq_self_eq_true, encB_def, encN_def, sb, eb, insA, encIns, ins_dec, ins_eta, encInts_eq, bc_zero, List.append_nil, *] | simp (disch := omega) only [if_pos, if_neg] | refine R.seq ?_ | refine LCB.text ?_ | refine LCB.quiet rfl ?_ | refine R.anyX ?_ | refine R.block ?_ | refine LCB.skip ?_ | refine LCB.exit ?_ | refine LCB.ret ?_ | ((first | refine RetOk.val hcl ?_ | refine Weak.at hcl ?_); simp only [seval, evw, List.forall_mem_cons, List.forall_mem_map, List.forall_mem_append, List.not_mem_nil, encB_def, encN_def, sb, eb, insA, encIns, ins_dec, ins_eta, encInts_eq, bc_zero, List.append_nil, *]) | ((first | refine LCB.cond (by simp only [seval, evx] <;> rfl) ?_ ?_ | refine wpG_split (by simp only [seval, evx] <;> rfl) ?_ ?_ | refine wxG_split (by simp only [seval, evx] <;> rfl) ?_ ?_) <;> (intro hc; try simp only [seval, nf] at hc)) | refine ACalls.inst ?_ | refine CallX.inst ?_ | (with_reducible refine And.intro ?_ ?_) | exact True.intro | refine CallX.pure hn.of ?_ | refine ACalls.pure hn.of ?_)
        refine ⟨(j + 1, C.set n false), ⟨hlj, hCl.of, hr.of⟩, by simp only; omega, Weak.at hcl ?_⟩
        simp only [seval, evw, List.forall_mem_cons, List.forall_mem_map, List.forall_mem_append, List.not_mem_nil, encB_def, encN_def, sb, eb, insA, encIns, ins_dec, ins_eta, encInts_eq, bc_zero, List.append_nil, *]
      · have hje : j = l.length := by omega
        subst hje
        rw [List.drop_length, List.foldl_nil] at hr
        subst hr
        have g1 : ¬ (l.length : Int) < (l.length : Int) := by omega
        repeat' (first | simp only [seval, evx, beq_self_eq_true, encB_def, encN_def, sb, eb, insA, encIns, ins_dec, ins_eta, encInts_eq, bc_zero, List.append_nil, *] | simp (disch := omega) only [if_pos, if_neg] | refine R.seq ?_ | refine LCB.text ?_ | refine LCB.quiet rfl ?_ | refine R.anyX ?_ | refine R.block ?_ | refine LCB.skip ?_ | refine LCB.exit ?_ | refine LCB.ret ?_ | ((first | refine RetOk.val hcl ?_ | refine Weak.at hcl ?_); simp only [seval, evw, List.forall_mem_cons, List.forall_mem_map, List.forall_mem_append, List.not_mem_nil, encB_def, encN_def, sb, eb, insA, encIns, ins_dec, ins_eta, encInts_eq, bc_zero, List.append_nil, *]) | ((first | refine LCB.cond (by simp only [seval, evx] <;> rfl) ?_ ?_ | refine wpG_split (by simp only [seval, evx] <;> rfl) ?_ ?_ | refine wxG_split (by simp only [seval, evx] <;> rfl) ?_ ?_) <;> (intro hc; try simp only [seval, nf] at hc)) | refine ACalls.inst ?_ | refine CallX.inst ?_ | (with_reducible refine And.intro ?_ ?_) | exact True.intro | refine CallX.pure hn.of ?_ | refine ACalls.pure hn.of ?_)
        refine ⟨(i + 1, C), ⟨hlt, hC, hq.of⟩, by simp only; omega, Weak.at hcl ?_⟩
        simp only [seval, evw, List.forall_mem_cons, List.forall_mem_map, List.forall_mem_append, List.not_mem_nil, encB_def, encN_def, sb, eb, insA, encIns, ins_dec, ins_eta, encInts_eq, bc_zero, List.append_nil, *]
    · have hie : i = f.length := by omega
      subst hie
      rw [List.drop_length, List.foldl_nil] at hq
      subst hq
      have e1 : ¬ (f.length : Int) < (f.length : Int) := by omega
      repeat' (first | simp only [seval, evx, beq_self_eq_true, encB_def, encN_def, sb, eb, insA, encIns, ins_dec, ins_eta, encInts_eq, bc_zero, List.append_nil, *] | simp (disch := omega) only [if_pos, if_neg] | refine R.seq ?_ | refine LCB.text ?_ | refine LCB.quiet rfl ?_ | refine R.anyX ?_ | refine R.block ?_ | refine LCB.skip ?_ | refine LCB.exit ?_ | refine LCB.ret ?_ | ((first | refine RetOk.val hcl ?_ | refine Weak.at hcl ?_); simp only [seval, evw, List.forall_mem_cons, List.forall_mem_map, List.forall_mem_append, List.not_mem_nil, encB_def, encN_def, sb, eb, insA, encIns, ins_dec, ins_eta, encInts_eq, bc_zero, List.append_nil, *]) | ((first | refine LCB.cond (by simp only [seval, evx] <;> rfl) ?_ ?_ | refine wpG_split (by simp only [seval, evx] <;> rfl) ?_ ?_ | refine wxG_split (by simp only [seval, evx] <;> rfl) ?_ ?_) <;> (intro hc; try simp only [seval, nf] at hc)) | refine ACalls.inst ?_ | refine CallX.inst ?_ | (with_reducible refine And.intro ?_ ?_) | exact True.intro)
  have bl : (bc (f.foldl markL T)).length = 24 := by rw [bc_len, marks_len, tl]
  have bt : (bc (f.foldl markL T)).take 24 = bc (f.foldl markL T) := bc_take (by rw [marks_len, tl])
  generalize f.foldl markL T = U at *
  have bd : (bc (trueB 0)).drop 24 = [] := rfl
  repeat' (first | simp only [seval, evx, beq_self_eq_true, encB_def, encN_def, sb, eb, insA, encIns, ins_dec, ins_eta, encInts_eq, bc_zero, List.append_nil, *] | simp (disch := omega) only [if_pos, if_neg] | refine R.seq ?_ | refine LCB.text ?_ | refine LCB.quiet rfl ?_ | refine R.anyX ?_ | refine R.block ?_ | refine LCB.skip ?_ | refine LCB.exit ?_ | refine LCB.ret ?_ | ((first | refine RetOk.val hcl ?_ | refine Weak.at hcl ?_); simp only [seval, evw, List.forall_mem_cons, List.forall_mem_map, List.forall_mem_append, List.not_mem_nil, encB_def, encN_def, sb, eb, insA, encIns, ins_dec, ins_eta, encInts_eq, bc_zero, List.append_nil, *]) | ((first | refine LCB.cond (by simp only [seval, evx] <;> rfl) ?_ ?_ | refine wpG_split (by simp only [seval, evx] <;> rfl) ?_ ?_ | refine wxG_split (by simp only [seval, evx] <;> rfl) ?_ ?_) <;> (intro hc; try simp only [seval, nf] at hc)) | refine ACalls.inst ?_ | refine CallX.inst ?_ | (with_reducible refine And.intro ?_ ?_) | exact True.intro)
end Go.Proofs.YtgdopmhgmpkahaaDoor

/-
  alloc: Spill: the code.
-/
namespace Go.Proofs.YtgdopmhgmpkahaaDoor
open Go.RowKit
set_option linter.unusedVariables false
set_option linter.unusedSimpArgs false

theorem spill_no {f : List Ins} (h : fnOk f = false) : resP (spillF f) = .tup [.list [], .int .i64 1] := by unfold spillF; rw [h]; rfl
theorem spill_use {f : List Ins} (h : fnOk f = true) (h2 : anySlot f = true) : resP (spillF f) = .tup [.list [], .int .i64 6] := by unfold spillF; rw [h, h2]; rfl
theorem spill_full {f : List Ins} (h : fnOk f = true) (h2 : anySlot f = false) (h3 : 200 < (spreadL f).length) : resP (spillF f) = .tup [.list [], .int .i64 3] := by unfold spillF; rw [h, h2, if_pos rfl, if_neg (by simp), if_pos h3]; rfl
theorem spill_good {f : List Ins} (h : fnOk f = true) (h2 : anySlot f = false) (h3 : ¬ 200 < (spreadL f).length) : resP (spillF f) = .tup [.list (((spreadL f).map (fixI f)).map encIns), .int .i64 0] := by unfold spillF; rw [h, h2, if_pos rfl, if_neg (by simp), if_neg h3]; rfl
theorem anySlot_at {f : List Ins} {i : Nat} (h8 : 8 ≤ i) (hi : i < 24) (h : (freeB f).getD i false = false) : anySlot f = true := by
  cases ha : anySlot f
  · exfalso
    unfold anySlot at ha
    rw [List.any_eq_false] at ha
    have hm : (freeB f).getD i false ∈ (freeB f).drop 8 := by
      rw [List.mem_iff_getElem?]
      refine ⟨i - 8, ?_⟩
      rw [List.getElem?_drop, show 8 + (i - 8) = i by omega, List.getD_eq_getElem?_getD, List.getElem?_eq_getElem (by rw [freeB_len]; omega)]
      rfl
    have := ha _ hm
    rw [h] at this
    simp at this
  · rfl
theorem anySlot_no {f : List Ins} (h : ∀ j, 8 ≤ j → j < 24 → (freeB f).getD j false = true) : anySlot f = false := by
  unfold anySlot
  rw [List.any_eq_false]
  intro b hb
  obtain ⟨i, hi⟩ := List.getElem?_of_mem hb
  rw [List.getElem?_drop] at hi
  have hlt : 8 + i < 24 := by
    have := (List.getElem?_eq_some_iff.1 hi).1
    rwa [freeB_len] at this
  have := h (8 + i) (by omega) hlt
  rw [List.getD_eq_getElem?_getD, hi] at this
  simp only [Option.getD_some] at this
  simp [this]
def slotN (i : Nat) : List Ins := (List.range i).map fun r : Nat => movI (8 + (r : Int)) (r : Int)
theorem slotN_succ (i : Nat) : slotN (i + 1) = slotN i ++ [movI (8 + (i : Int)) (i : Int)] := by simp [slotN, List.range_succ]
theorem slotN_len (i : Nat) : (slotN i).length = i := by simp [slotN]
theorem slotN_all : slotN 8 = spreadL [] := by simp [slotN, spreadL, slotL]
theorem take_ints {l : List Int} {j : Nat} (h : j < l.length) : l.take (j + 1) = l.take j ++ [l.getD j 0] := by
  rw [List.take_succ_eq_append_getElem h]
  simp [List.getD, h]
def begN (f : List Ins) (i : Nat) : List Nat := (List.range i).map (begOf f)
theorem begN_succ (f : List Ins) (i : Nat) : begN f (i + 1) = begN f i ++ [begOf f i] := by simp [begN, List.range_succ]
theorem begN_len (f : List Ins) (i : Nat) : (begN f i).length = i := by simp [begN]
theorem begN_get {f : List Ins} {i j : Nat} (h : j < i) : ((begN f i).map encN)[j]? = some [.int .i64 (begOf f j : Int)] := by
  simp [begN, h, encN]

/-- The first loops: which places are free, and the registers' slots. -/
theorem movI_eq (d a : Int) : movI d a = ⟨2, d, a, 0, 0, 0⟩ := rfl
set_option maxRecDepth 20000 in
set_option maxHeartbeats 16000000 in
theorem alloc_Spill_ok (f : List Ins) : Pure Tryd.prog 9 [encFn f] (resP (spillF f)) := by
  intro H
  refine ACalls.go alloc_Spill.low (by simp) fun hcl => ?_
  have h1 := asm_Right_ok f
  cases hf : fnOk f
  · have hr := spill_no hf
    rw [hf] at h1
    rw [hr]
    unfold encFn at *
    replace h1 := Hold.mk h1
    clear hr
    repeat' (first | simp only [seval, evx, beq_self_eq_true, encB_def, encN_def, sb, eb, insA, encIns, ins_dec, ins_eta, encInts_eq, List.length_append, Nat.mul_one, *] | simp (disch := omega) only [if_pos, if_neg] | refine R.seq ?_ | refine LCB.text ?_ | refine LCB.quiet rfl ?_ | refine R.anyX ?_ | refine R.block ?_ | refine LCB.skip ?_ | refine LCB.exit ?_ | refine LCB.ret ?_ | ((first | refine RetOk.val hcl ?_ | refine Weak.at hcl ?_); simp only [seval, evw, List.forall_mem_cons, List.forall_mem_map, List.forall_mem_append, List.not_mem_nil, encB_def, encN_def, sb, eb, insA, encIns, ins_dec, ins_eta, encInts_eq, List.length_append, Nat.mul_one, *]) | ((first | refine LCB.cond (by simp only [seval, evx] <;> rfl) ?_ ?_ | refine wpG_split (by simp only [seval, evx] <;> rfl) ?_ ?_ | refine wxG_split (by simp only [seval, evx] <;> rfl) ?_ ?_) <;> (intro hc; try simp only [seval, nf] at hc)) | refine ACalls.inst ?_ | refine CallX.inst ?_ | (with_reducible refine And.intro ?_ ?_) | exact True.intro | refine CallX.pure hn.of ?_ | refine ACalls.pure hn.of ?_ | refine ACalls.pure h1.of ?_ | refine ACalls.pure h2.of ?_ | refine ACalls.pure hw1.of ?_ | refine ACalls.pure hw2.of ?_ | refine ACalls.pure hmv.of ?_ | refine ACalls.pure hn1.of ?_ | refine ACalls.pure hn2.of ?_)
  have h2 := alloc_free_ok f hf
  rw [hf] at h1
  have hfl := freeB_len f
  have hbl : (bc (freeB f)).length = 24 := by rw [bc_len, hfl]
  have huse := spill_use hf
  have hat : ∀ i, 8 ≤ i → i < 24 → (freeB f).getD i false = false → resP (spillF f) = .tup [.list [], .int .i64 6] := fun i h1 h2 h3 => huse (anySlot_at h1 h2 h3)
  rw [arrB_eq] at h2
  generalize hRES : resP (spillF f) = RES at *
  unfold encFn at *
  replace h1 := Hold.mk h1
  replace h2 := Hold.mk h2
  replace hat := Hold.mk hat
  replace hRES := Hold.mk hRES
  replace hf := Hold.mk hf
  clear huse
  (refine R.seq ?_; refine LCB.text ?_; repeat' (first | simp only [seval, evo, beq_self_eq_true, encB_def, encN_def, sb, eb, insA, encIns, ins_dec, ins_eta, encInts_eq, List.length_append, Nat.mul_one, *] | simp (disch := omega) only [if_pos, if_neg]))
  refine R.cut [(0, .list (f.map encIns))] (H ++ []) ?_ ?_
  · repeat' (first | simp only [seval, evx, beq_self_eq_true, encB_def, encN_def, sb, eb, insA, encIns, ins_dec, ins_eta, encInts_eq, List.length_append, Nat.mul_one, *] | simp (disch := omega) only [if_pos, if_neg] | refine R.seq ?_ | refine LCB.text ?_ | refine LCB.quiet rfl ?_ | refine R.anyX ?_ | refine R.block ?_ | refine LCB.skip ?_ | refine LCB.exit ?_ | refine LCB.ret ?_ | ((first | refine RetOk.val hcl ?_ | refine Weak.at hcl ?_); simp only [seval, evw, List.forall_mem_cons, List.forall_mem_map, List.forall_mem_append, List.not_mem_nil, encB_def, encN_def, sb, eb, insA, encIns, ins_dec, ins_eta, encInts_eq, List.length_append, Nat.mul_one, *]) | ((first | refine LCB.cond (by simp only [seval, evx] <;> rfl) ?_ ?_ | refine wpG_split (by simp only [seval, evx] <;> rfl) ?_ ?_ | refine wxG_split (by simp only [seval, evx] <;> rfl) ?_ ?_) <;> (intro hc; try simp only [seval, nf] at hc)) | refine ACalls.inst ?_ | refine CallX.inst ?_ | (with_reducible refine And.intro ?_ ?_) | exact True.intro | refine CallX.pure hn.of ?_ | refine ACalls.pure hn.of ?_ | refine ACalls.pure h1.of ?_ | refine ACalls.pure h2.of ?_ | refine ACalls.pure hw1.of ?_ | refine ACalls.pure hw2.of ?_ | refine ACalls.pure hmv.of ?_ | refine ACalls.pure hn1.of ?_ | refine ACalls.pure hn2.of ?_)
  refine R.join (S := Unit) ⟨fun _ => [(0, .list (f.map encIns))], fun _ => H ++ [], fun _ => anySlot f = false, fun _ => 0⟩ ?_ ?_
  · repeat' (first | simp only [seval, evx, beq_self_eq_true, encB_def, encN_def, sb, eb, insA, encIns, ins_dec, ins_eta, encInts_eq, List.length_append, Nat.mul_one, *] | simp (disch := omega) only [if_pos, if_neg] | refine R.seq ?_ | refine LCB.text ?_ | refine LCB.quiet rfl ?_ | refine R.anyX ?_ | refine R.block ?_ | refine LCB.skip ?_ | refine LCB.exit ?_ | refine LCB.ret ?_ | ((first | refine RetOk.val hcl ?_ | refine Weak.at hcl ?_); simp only [seval, evw, List.forall_mem_cons, List.forall_mem_map, List.forall_mem_append, List.not_mem_nil, encB_def, encN_def, sb, eb, insA, encIns, ins_dec, ins_eta, encInts_eq, List.length_append, Nat.mul_one, *]) | ((first | refine LCB.cond (by simp only [seval, evx] <;> rfl) ?_ ?_ | refine wpG_split (by simp only [seval, evx] <;> rfl) ?_ ?_ | refine wxG_split (by simp only [seval, evx] <;> rfl) ?_ ?_) <;> (intro hc; try simp only [seval, nf] at hc)) | refine ACalls.inst ?_ | refine CallX.inst ?_ | (with_reducible refine And.intro ?_ ?_) | exact True.intro | refine CallX.pure hn.of ?_ | refine ACalls.pure hn.of ?_ | refine ACalls.pure h1.of ?_ | refine ACalls.pure h2.of ?_ | refine ACalls.pure hw1.of ?_ | refine ACalls.pure hw2.of ?_ | refine ACalls.pure hmv.of ?_ | refine ACalls.pure hn1.of ?_ | refine ACalls.pure hn2.of ?_)
    refine R.loop (S := Nat) ⟨fun i => [(0, .list (f.map encIns)), (20, .agg (bc (freeB f))), (21, .int .i64 (i : Int))], fun i => H ++ [], fun i => i ≤ 24 ∧ ∀ j, 8 ≤ j → j < i → (freeB f).getD j false = true, fun i => 24 - i⟩ 0 ⟨Nat.zero_le _, fun j _ h => absurd h (Nat.not_lt_zero _)⟩ (Weak.at hcl ?_) ?_
    · simp only [seval, evw, List.forall_mem_cons, List.forall_mem_map, List.forall_mem_append, List.not_mem_nil, encB_def, encN_def, sb, eb, insA, encIns, ins_dec, ins_eta, encInts_eq, List.length_append, Nat.mul_one, *]
    rintro i ⟨hi, hq⟩
    simp only at hi hq ⊢
    replace hq := Hold.mk hq
    by_cases hlt : i < 24
    · have e1 : (i : Int) < 24 := by omega
      have e2 : (i : Int) < ((24 : Nat) : Int) := by omega
      have e3 : IntKind.i64.wrap ((i : Int) + 1) = ((i + 1 : Nat) : Int) := by rw [IntKind.wrap_i64]; omega
      have hg := bc_get (B := freeB f) (i := i) (by omega)
      have hat := hat.of i
      have hqs : ((freeB f).getD i false = true ∨ i < 8) → ∀ j, 8 ≤ j → j < i + 1 → (freeB f).getD j false = true := fun h j h8 hj => by
        by_cases hji : j = i
        · subst hji; exact h.resolve_right (by omega)
        · exact hq.of j h8 (by omega)
      cases hb : (freeB f).getD i false
      · rw [hb] at hg hat hqs
        by_cases h8 : i < 8
        · have er : inR 8 (i : Int) = true := by simp [inR]; omega
          have hq2 := Hold.mk (hqs (.inr h8))
          clear hqs
          replace hat := Hold.mk hat
          repeat' (first | simp only [seval, evx, beq_self_eq_true, encB_def, encN_def, sb, eb, insA, encIns, ins_dec, ins_eta, encInts_eq, List.length_append, Nat.mul_one, *] | simp (disch := omega) only [if_pos, if_neg] | refine R.seq ?_ | refine LCB.text ?_ | refine LCB.quiet rfl ?_ | refine R.anyX ?_ | refine R.block ?_ | refine LCB.skip ?_ | refine LCB.exit ?_ | refine LCB.ret ?_ | ((first | refine RetOk.val hcl ?_ | refine Weak.at hcl ?_); simp only [seval, evw, List.forall_mem_cons, List.forall_mem_map, List.forall_mem_append, List.not_mem_nil, encB_def, encN_def, sb, eb, insA, encIns, ins_dec, ins_eta, encInts_eq, List.length_append, Nat.mul_one, *]) | ((first | refine LCB.cond (by simp only [seval, evx] <;> rfl) ?_ ?_ | refine wpG_split (by simp only [seval, evx] <;> rfl) ?_ ?_ | refine wxG_split (by simp only [seval, evx] <;> rfl) ?_ ?_) <;> (intro hc; try simp only [seval, nf] at hc)) | refine ACalls.inst ?_ | refine CallX.inst ?_ | (with_reducible refine And.intro ?_ ?_) | exact True.intro | refine CallX.pure hn.of ?_ | refine ACalls.pure hn.of ?_ | refine ACalls.pure h1.of ?_ | refine ACalls.pure h2.of ?_ | refine ACalls.pure hw1.of ?_ | refine ACalls.pure hw2.of ?_ | refine ACalls.pure hmv.of ?_ | refine ACalls.pure hn1.of ?_ | refine ACalls.pure hn2.of ?_)
          refine ⟨i + 1, ⟨hlt, hq2.of⟩, by simp only; omega, Weak.at hcl ?_⟩
          simp only [seval, evw, List.forall_mem_cons, List.forall_mem_map, List.forall_mem_append, List.not_mem_nil, encB_def, encN_def, sb, eb, insA, encIns, ins_dec, ins_eta, encInts_eq, List.length_append, Nat.mul_one, *]
        · have er : inR 8 (i : Int) = false := by simp [inR]; omega
          have hr := hat (by omega) hlt rfl
          clear hqs hat
          repeat' (first | simp only [seval, evx, beq_self_eq_true, encB_def, encN_def, sb, eb, insA, encIns, ins_dec, ins_eta, encInts_eq, List.length_append, Nat.mul_one, *] | simp (disch := omega) only [if_pos, if_neg] | refine R.seq ?_ | refine LCB.text ?_ | refine LCB.quiet rfl ?_ | refine R.anyX ?_ | refine R.block ?_ | refine LCB.skip ?_ | refine LCB.exit ?_ | refine LCB.ret ?_ | ((first | refine RetOk.val hcl ?_ | refine Weak.at hcl ?_); simp only [seval, evw, List.forall_mem_cons, List.forall_mem_map, List.forall_mem_append, List.not_mem_nil, encB_def, encN_def, sb, eb, insA, encIns, ins_dec, ins_eta, encInts_eq, List.length_append, Nat.mul_one, *]) | ((first | refine LCB.cond (by simp only [seval, evx] <;> rfl) ?_ ?_ | refine wpG_split (by simp only [seval, evx] <;> rfl) ?_ ?_ | refine wxG_split (by simp only [seval, evx] <;> rfl) ?_ ?_) <;> (intro hc; try simp only [seval, nf] at hc)) | refine ACalls.inst ?_ | refine CallX.inst ?_ | (with_reducible refine And.intro ?_ ?_) | exact True.intro | refine CallX.pure hn.of ?_ | refine ACalls.pure hn.of ?_ | refine ACalls.pure h1.of ?_ | refine ACalls.pure h2.of ?_ | refine ACalls.pure hw1.of ?_ | refine ACalls.pure hw2.of ?_ | refine ACalls.pure hmv.of ?_ | refine ACalls.pure hn1.of ?_ | refine ACalls.pure hn2.of ?_)
      · rw [hb] at hg hqs
        have hq2 := Hold.mk (hqs (.inl rfl))
        clear hqs
        replace hat := Hold.mk hat
        repeat' (first | simp only [seval, evx, beq_self_eq_true, encB_def, encN_def, sb, eb, insA, encIns, ins_dec, ins_eta, encInts_eq, List.length_append, Nat.mul_one, *] | simp (disch := omega) only [if_pos, if_neg] | refine R.seq ?_ | refine LCB.text ?_ | refine LCB.quiet rfl ?_ | refine R.anyX ?_ | refine R.block ?_ | refine LCB.skip ?_ | refine LCB.exit ?_ | refine LCB.ret ?_ | ((first | refine RetOk.val hcl ?_ | refine Weak.at hcl ?_); simp only [seval, evw, List.forall_mem_cons, List.forall_mem_map, List.forall_mem_append, List.not_mem_nil, encB_def, encN_def, sb, eb, insA, encIns, ins_dec, ins_eta, encInts_eq, List.length_append, Nat.mul_one, *]) | ((first | refine LCB.cond (by simp only [seval, evx] <;> rfl) ?_ ?_ | refine wpG_split (by simp only [seval, evx] <;> rfl) ?_ ?_ | refine wxG_split (by simp only [seval, evx] <;> rfl) ?_ ?_) <;> (intro hc; try simp only [seval, nf] at hc)) | refine ACalls.inst ?_ | refine CallX.inst ?_ | (with_reducible refine And.intro ?_ ?_) | exact True.intro | refine CallX.pure hn.of ?_ | refine ACalls.pure hn.of ?_ | refine ACalls.pure h1.of ?_ | refine ACalls.pure h2.of ?_ | refine ACalls.pure hw1.of ?_ | refine ACalls.pure hw2.of ?_ | refine ACalls.pure hmv.of ?_ | refine ACalls.pure hn1.of ?_ | refine ACalls.pure hn2.of ?_)
        refine ⟨i + 1, ⟨hlt, hq2.of⟩, by simp only; omega, Weak.at hcl ?_⟩
        simp only [seval, evw, List.forall_mem_cons, List.forall_mem_map, List.forall_mem_append, List.not_mem_nil, encB_def, encN_def, sb, eb, insA, encIns, ins_dec, ins_eta, encInts_eq, List.length_append, Nat.mul_one, *]
    · have hie : i = 24 := by omega
      subst hie
      have hno := anySlot_no hq.of
      have e1 : ¬ ((24 : Nat) : Int) < 24 := by omega
      replace hno := Hold.mk hno
      repeat' (first | simp only [seval, evx, beq_self_eq_true, encB_def, encN_def, sb, eb, insA, encIns, ins_dec, ins_eta, encInts_eq, List.length_append, Nat.mul_one, *] | simp (disch := omega) only [if_pos, if_neg] | refine R.seq ?_ | refine LCB.text ?_ | refine LCB.quiet rfl ?_ | refine R.anyX ?_ | refine R.block ?_ | refine LCB.skip ?_ | refine LCB.exit ?_ | refine LCB.ret ?_ | ((first | refine RetOk.val hcl ?_ | refine Weak.at hcl ?_); simp only [seval, evw, List.forall_mem_cons, List.forall_mem_map, List.forall_mem_append, List.not_mem_nil, encB_def, encN_def, sb, eb, insA, encIns, ins_dec, ins_eta, encInts_eq, List.length_append, Nat.mul_one, *]) | ((first | refine LCB.cond (by simp only [seval, evx] <;> rfl) ?_ ?_ | refine wpG_split (by simp only [seval, evx] <;> rfl) ?_ ?_ | refine wxG_split (by simp only [seval, evx] <;> rfl) ?_ ?_) <;> (intro hc; try simp only [seval, nf] at hc)) | refine ACalls.inst ?_ | refine CallX.inst ?_ | (with_reducible refine And.intro ?_ ?_) | exact True.intro | refine CallX.pure hn.of ?_ | refine ACalls.pure hn.of ?_ | refine ACalls.pure h1.of ?_ | refine ACalls.pure h2.of ?_ | refine ACalls.pure hw1.of ?_ | refine ACalls.pure hw2.of ?_ | refine ACalls.pure hmv.of ?_ | refine ACalls.pure hn1.of ?_ | refine ACalls.pure hn2.of ?_)
      refine ⟨(), hno.of, Weak.at hcl ?_⟩
      simp only [seval, evw, List.forall_mem_cons, List.forall_mem_map, List.forall_mem_append, List.not_mem_nil, encB_def, encN_def, sb, eb, insA, encIns, ins_dec, ins_eta, encInts_eq, List.length_append, Nat.mul_one, *]
  rintro ⟨⟩ hs
  simp only at hs ⊢
  clear hat h1 h2
  obtain ⟨k1, k2, k3, k4⟩ := fnOk_iff.1 hf.of
  have hfull := spill_full hf.of hs
  have hgood := spill_good hf.of hs
  rw [hRES.of] at hfull hgood
  have hreg : ∀ x ∈ f, RegI x := fun x hx => reg_ins (k3 x hx) hx hs
  have hjmp : ∀ y ∈ spreadL f, y.op = 16 ∨ y.op = 17 → 0 ≤ y.to ∧ y.to < (f.length : Int) := by
    intro y hy ho
    rcases mem_spread hy with ⟨r, hr, rfl⟩ | ⟨x, hx, rfl | ⟨r, hr, rfl⟩ | ⟨r, hr, rfl⟩⟩
    · simp [movI] at ho
    · exact chk_jmp (k3 _ hx) ho
    · simp [movI] at ho
    · simp [movI] at ho
  replace hs := Hold.mk hs
  replace hfull := Hold.mk hfull
  replace hgood := Hold.mk hgood
  replace hreg := Hold.mk hreg
  replace hjmp := Hold.mk hjmp
  clear k3 k4 hRES hf hfl hbl
  (refine R.seq ?_; refine LCB.text ?_; repeat' (first | simp only [seval, evo, beq_self_eq_true, encB_def, encN_def, sb, eb, insA, encIns, ins_dec, ins_eta, encInts_eq, List.length_append, Nat.mul_one, *] | simp (disch := omega) only [if_pos, if_neg]))
  (refine R.seq ?_; refine LCB.text ?_; repeat' (first | simp only [seval, evo, beq_self_eq_true, encB_def, encN_def, sb, eb, insA, encIns, ins_dec, ins_eta, encInts_eq, List.length_append, Nat.mul_one, *] | simp (disch := omega) only [if_pos, if_neg]))
  refine R.cut [(0, .list (f.map encIns)), (6, .sl 6 H.length (spreadL []).length 0 (spreadL []).length), (7, .imm (.slice none 0 0))] (H ++ [.vec 6 ((spreadL []).map encIns)]) ?_ ?_
  · rw [← slotN_all]
    (refine R.seq ?_; refine LCB.text ?_; repeat' (first | simp only [seval, evo, beq_self_eq_true, encB_def, encN_def, sb, eb, insA, encIns, ins_dec, ins_eta, encInts_eq, List.length_append, Nat.mul_one, *] | simp (disch := omega) only [if_pos, if_neg]))
    refine R.block (R.loop (S := Nat) ⟨fun i => [(0, .list (f.map encIns)), (6, .sl 6 H.length (slotN i).length 0 (slotN i).length), (7, .imm (.slice none 0 0)), (33, .int .i64 (i : Int))], fun i => H ++ [.vec 6 ((slotN i).map encIns)], fun i => i ≤ 8, fun i => 8 - i⟩ 0 (Nat.zero_le _) ((Weak.growAt 6 6 (by omega) (by simp only [seval, evo, beq_self_eq_true, encB_def, encN_def, sb, eb, insA, encIns, ins_dec, ins_eta, encInts_eq, List.length_append, Nat.mul_one, *])).trans (Weak.at hcl ?_)) ?_)
    · have e0 : slotN 0 = [] := rfl
      simp only [seval, evw, List.forall_mem_cons, List.forall_mem_map, List.forall_mem_append, List.not_mem_nil, encB_def, encN_def, sb, eb, insA, encIns, ins_dec, ins_eta, encInts_eq, List.length_append, Nat.mul_one, *]
    intro i hi
    simp only at hi ⊢
    have hsl := slotN_len i
    by_cases hlt : i < 8
    · have hss := slotN_succ i
      generalize slotN i = out at *
      have e1 : (i : Int) < 8 := by omega
      have e3 : IntKind.i64.wrap ((i : Int) + 1) = ((i + 1 : Nat) : Int) := by rw [IntKind.wrap_i64]; omega
      have e4 : IntKind.i64.wrap (8 + (i : Int)) = 8 + (i : Int) := by rw [IntKind.wrap_i64]; omega
      have hn := alloc_move_ok (8 + (i : Int)) (i : Int)
      rw [movI_eq] at hn hss
      replace hn := Hold.mk hn
      have b1 : (out.length + 1) * 48 ≤ 140737488355328 := by omega
      have b2 : out.length ≤ 9223372036854775806 := by omega
      replace hsl := Hold.mk hsl
      repeat' (first | simp only [seval, evx, beq_self_eq_true, encB_def, encN_def, sb, eb, insA, encIns, ins_dec, ins_eta, encInts_eq, List.length_append, Nat.mul_one, *] | simp (disch := omega) only [if_pos, if_neg] | refine R.seq ?_ | refine LCB.text ?_ | refine LCB.quiet rfl ?_ | refine R.anyX ?_ | refine R.block ?_ | refine LCB.skip ?_ | refine LCB.exit ?_ | refine LCB.ret ?_ | ((first | refine RetOk.val hcl ?_ | refine Weak.at hcl ?_); simp only [seval, evw, List.forall_mem_cons, List.forall_mem_map, List.forall_mem_append, List.not_mem_nil, encB_def, encN_def, sb, eb, insA, encIns, ins_dec, ins_eta, encInts_eq, List.length_append, Nat.mul_one, *]) | ((first | refine LCB.cond (by simp only [seval, evx] <;> rfl) ?_ ?_ | refine wpG_split (by simp only [seval, evx] <;> rfl) ?_ ?_ | refine wxG_split (by simp only [seval, evx] <;> rfl) ?_ ?_) <;> (intro hc; try simp only [seval, nf] at hc)) | refine ACalls.inst ?_ | refine CallX.inst ?_ | (with_reducible refine And.intro ?_ ?_) | exact True.intro | refine CallX.pure hn.of ?_ | refine ACalls.pure hn.of ?_ | refine ACalls.pure h1.of ?_ | refine ACalls.pure h2.of ?_ | refine ACalls.pure hw1.of ?_ | refine ACalls.pure hw2.of ?_ | refine ACalls.pure hmv.of ?_ | refine ACalls.pure hn1.of ?_ | refine ACalls.pure hn2.of ?_)
      refine ⟨i + 1, hlt, by simp only; omega, Weak.at hcl ?_⟩
      simp only [seval, evw, List.forall_mem_cons, List.forall_mem_map, List.forall_mem_append, List.not_mem_nil, encB_def, encN_def, sb, eb, insA, encIns, ins_dec, ins_eta, encInts_eq, List.length_append, Nat.mul_one, *]
    · have hie : i = 8 := by omega
      subst hie
      have e1 : ¬ ((8 : Nat) : Int) < 8 := by omega
      generalize slotN 8 = out at *
      replace hsl := Hold.mk hsl
      repeat' (first | simp only [seval, evx, beq_self_eq_true, encB_def, encN_def, sb, eb, insA, encIns, ins_dec, ins_eta, encInts_eq, List.length_append, Nat.mul_one, *] | simp (disch := omega) only [if_pos, if_neg] | refine R.seq ?_ | refine LCB.text ?_ | refine LCB.quiet rfl ?_ | refine R.anyX ?_ | refine R.block ?_ | refine LCB.skip ?_ | refine LCB.exit ?_ | refine LCB.ret ?_ | ((first | refine RetOk.val hcl ?_ | refine Weak.at hcl ?_); simp only [seval, evw, List.forall_mem_cons, List.forall_mem_map, List.forall_mem_append, List.not_mem_nil, encB_def, encN_def, sb, eb, insA, encIns, ins_dec, ins_eta, encInts_eq, List.length_append, Nat.mul_one, *]) | ((first | refine LCB.cond (by simp only [seval, evx] <;> rfl) ?_ ?_ | refine wpG_split (by simp only [seval, evx] <;> rfl) ?_ ?_ | refine wxG_split (by simp only [seval, evx] <;> rfl) ?_ ?_) <;> (intro hc; try simp only [seval, nf] at hc)) | refine ACalls.inst ?_ | refine CallX.inst ?_ | (with_reducible refine And.intro ?_ ?_) | exact True.intro | refine CallX.pure hn.of ?_ | refine ACalls.pure hn.of ?_ | refine ACalls.pure h1.of ?_ | refine ACalls.pure h2.of ?_ | refine ACalls.pure hw1.of ?_ | refine ACalls.pure hw2.of ?_ | refine ACalls.pure hmv.of ?_ | refine ACalls.pure hn1.of ?_ | refine ACalls.pure hn2.of ?_)
  refine R.join (S := List Ins × List Nat) ⟨fun y => [(6, .sl 6 H.length y.1.length 0 y.1.length), (7, .sl 1 (H.length + 1) y.2.length 0 y.2.length)], fun y => H ++ [.vec 6 (y.1.map encIns), .vec 1 (y.2.map encN)], fun y => y.1 = spreadL f ∧ y.2 = begN f f.length, fun _ => 0⟩ ?_ ?_
  · (refine R.seq ?_; refine LCB.text ?_; repeat' (first | simp only [seval, evo, beq_self_eq_true, encB_def, encN_def, sb, eb, insA, encIns, ins_dec, ins_eta, encInts_eq, List.length_append, Nat.mul_one, *] | simp (disch := omega) only [if_pos, if_neg]))
    refine R.block (R.loop (S := Nat × List Ins × List Nat) ⟨fun y => [(6, .sl 6 H.length y.2.1.length 0 y.2.1.length), (7, .sl 1 (H.length + 1) y.2.2.length 0 y.2.2.length), (44, .list (f.map encIns)), (45, .int .i64 (f.length : Int)), (46, .int .i64 (y.1 : Int))], fun y => H ++ [.vec 6 (y.2.1.map encIns), .vec 1 (y.2.2.map encN)],
      fun y => y.1 ≤ f.length ∧ y.2.1 = spreadL (f.take y.1) ∧ y.2.2 = begN f y.1, fun y => f.length - y.1⟩ (0, spreadL [], []) ⟨Nat.zero_le _, rfl, rfl⟩ ((Weak.growAt 7 1 (by omega) (by simp only [seval, evo, beq_self_eq_true, encB_def, encN_def, sb, eb, insA, encIns, ins_dec, ins_eta, encInts_eq, List.length_append, Nat.mul_one, *])).trans (Weak.at hcl ?_)) ?_)
    · simp only [seval, evw, List.forall_mem_cons, List.forall_mem_map, List.forall_mem_append, List.not_mem_nil, encB_def, encN_def, sb, eb, insA, encIns, ins_dec, ins_eta, encInts_eq, List.length_append, Nat.mul_one, *]
    rintro ⟨i, out, beg⟩ ⟨hi, ho, hb⟩
    simp only at hi ho hb ⊢
    by_cases hlt : i < f.length
    · have hg := getD_encIns hlt
      have e1 : (i : Int) < (f.length : Int) := by omega
      have e3 : IntKind.i64.wrap ((i : Int) + 1) = ((i + 1 : Nat) : Int) := by rw [IntKind.wrap_i64]; omega
      have hol : Hold (out.length ≤ 8 + 6 * i) := ⟨by rw [ho]; have := spread_len (f.take i); rw [List.length_take] at this; omega⟩
      have hbl2 : Hold (beg.length = i) := ⟨by rw [hb, begN_len]⟩
      have hos : spreadL (f.take (i + 1)) = out ++ groupL (f.getD i noIns) := by rw [take_ins hlt, spread_snoc, ho]
      have hbs : begN f (i + 1) = beg ++ [out.length] := by rw [begN_succ, ← hb]; unfold begOf; rw [← ho]
      have hrx := hreg.of _ (getD_mem hlt)
      generalize f.getD i noIns = x at *
      have hneed : ∀ r ∈ onceL (needsL x), 0 ≤ r ∧ r < 8 := fun r hr => needs_mem hrx (once_mem hr)
      have hget : ∀ r ∈ onceL (getsL x), 0 ≤ r ∧ r < 8 := fun r hr => gets_mem hrx (once_mem hr)
      have hn1 := alloc_needs_ok x
      have hn2 := alloc_gets_ok x
      have hw1 := alloc_once_ok (needsL x)
      have hw2 := alloc_once_ok (getsL x)
      have hl1 : (onceL (needsL x)).length ≤ 3 := Nat.le_trans (once_len _) (needs_len x)
      have hl2 : (onceL (getsL x)).length ≤ 3 := Nat.le_trans (once_len _) (Nat.le_trans (gets_len x) (by omega))
      have hgr : groupL x = (onceL (needsL x)).map (fun r => movI r (8 + r)) ++ [x] ++ (onceL (getsL x)).map (fun r => movI (8 + r) r) := rfl
      rw [hgr] at hos
      rw [insA_eq] at hn1 hn2
      generalize onceL (needsL x) = l1 at *
      generalize onceL (getsL x) = l2 at *
      generalize needsL x = q1 at *
      generalize getsL x = q2 at *
      rw [encInts_eq] at hn1 hn2 hw1 hw2
      rw [encInts_eq] at hw1 hw2
      replace hn1 := Hold.mk hn1
      replace hn2 := Hold.mk hn2
      replace hw1 := Hold.mk hw1
      replace hw2 := Hold.mk hw2
      replace hos := Hold.mk hos
      replace hbs := Hold.mk hbs
      replace hrx := Hold.mk hrx
      replace hneed := Hold.mk hneed
      replace hget := Hold.mk hget
      replace hl1 := Hold.mk hl1
      replace hl2 := Hold.mk hl2
      clear hgr ho hb
      obtain ⟨b1, b2, b3, b4⟩ : (beg.length + 1) * 8 ≤ 140737488355328 ∧ beg.length ≤ 9223372036854775806 ∧ (out.length + 1) * 48 ≤ 140737488355328 ∧ out.length ≤ 9223372036854775806 := by
        have := hol.of; have := hbl2.of
        exact ⟨by omega, by omega, by omega, by omega⟩
      repeat' (first | simp only [seval, evx, beq_self_eq_true, encB_def, encN_def, sb, eb, insA, encIns, ins_dec, ins_eta, encInts_eq, List.length_append, Nat.mul_one, *] | simp (disch := omega) only [if_pos, if_neg] | refine R.seq ?_ | refine LCB.text ?_ | refine LCB.quiet rfl ?_ | refine R.anyX ?_ | refine R.block ?_ | refine LCB.skip ?_ | refine LCB.exit ?_ | refine LCB.ret ?_ | ((first | refine RetOk.val hcl ?_ | refine Weak.at hcl ?_); simp only [seval, evw, List.forall_mem_cons, List.forall_mem_map, List.forall_mem_append, List.not_mem_nil, encB_def, encN_def, sb, eb, insA, encIns, ins_dec, ins_eta, encInts_eq, List.length_append, Nat.mul_one, *]) | ((first | refine LCB.cond (by simp only [seval, evx] <;> rfl) ?_ ?_ | refine wpG_split (by simp only [seval, evx] <;> rfl) ?_ ?_ | refine wxG_split (by simp only [seval, evx] <;> rfl) ?_ ?_) <;> (intro hc; try simp only [seval, nf] at hc)) | refine ACalls.inst ?_ | refine CallX.inst ?_ | (with_reducible refine And.intro ?_ ?_) | exact True.intro | refine CallX.pure hn.of ?_ | refine ACalls.pure hn.of ?_ | refine ACalls.pure h1.of ?_ | refine ACalls.pure h2.of ?_ | refine ACalls.pure hw1.of ?_ | refine ACalls.pure hw2.of ?_ | refine ACalls.pure hmv.of ?_ | refine ACalls.pure hn1.of ?_ | refine ACalls.pure hn2.of ?_)
      refine R.loop (S := Nat × List Ins) ⟨fun y => [(6, .sl 6 H.length y.2.length 0 y.2.length), (7, .sl 1 (H.length + 1) (beg.length + 1) 0 (beg.length + 1)), (10, .ptr (H.length + 2) 1 0 0), (44, .list (f.map encIns)), (45, .int .i64 (f.length : Int)), (46, .int .i64 (i : Int)), (57, .list (l1.map encI)), (58, .int .i64 (l1.length : Int)), (59, .int .i64 (y.1 : Int))],
        fun y => H ++ [.vec 6 (y.2.map encIns), .vec 1 (beg.map encN ++ [[.int .i64 (out.length : Int)]]), .vec 6 [encIns x]],
        fun y => y.1 ≤ l1.length ∧ y.2.length = out.length + y.1 ∧ y.2 = out ++ (l1.take y.1).map (fun r => movI r (8 + r)), fun y => l1.length - y.1⟩ (0, out) ⟨Nat.zero_le _, rfl, by simp⟩ (Weak.at hcl ?_) ?_
      · simp only [seval, evw, List.forall_mem_cons, List.forall_mem_map, List.forall_mem_append, List.not_mem_nil, encB_def, encN_def, sb, eb, insA, encIns, ins_dec, ins_eta, encInts_eq, List.length_append, Nat.mul_one, *]
      · rintro ⟨j, o1⟩ ⟨hj, ho1, hq1⟩
        simp only at hj ho1 hq1 ⊢
        by_cases hlj : j < l1.length
        · have hgj := getD_encI' hlj
          have hq2 : o1 ++ [movI (l1.getD j 0) (8 + l1.getD j 0)] = out ++ (l1.take (j + 1)).map (fun r => movI r (8 + r)) := by rw [hq1, take_ints hlj]; simp
          have hv := hneed.of (l1.getD j 0) (by simp [List.getD, hlj])
          generalize l1.getD j 0 = v at *
          have g1 : (j : Int) < (l1.length : Int) := by omega
          have g3 : IntKind.i64.wrap ((j : Int) + 1) = ((j + 1 : Nat) : Int) := by have := hl1.of; rw [IntKind.wrap_i64]; omega
          have g4 : IntKind.i64.wrap (8 + v) = 8 + v := by rw [IntKind.wrap_i64]; omega
          have hmv := alloc_move_ok v (8 + v)
          have hmq : movI v (8 + v) = ⟨2, v, 8 + v, 0, 0, 0⟩ := rfl
          rw [hmq] at hmv hq2
          replace hmv := Hold.mk hmv
          obtain ⟨c1, c2, c3⟩ : (o1.length + 1) * 48 ≤ 140737488355328 ∧ o1.length ≤ 9223372036854775806 ∧ o1.length + 1 = out.length + (j + 1) := by
            have := hol.of; have := hl1.of
            exact ⟨by omega, by omega, by omega⟩
          replace c3 := Hold.mk c3
          replace hq2 := Hold.mk hq2
          replace hq1 := Hold.mk hq1
          replace ho1 := Hold.mk ho1
          replace hv := Hold.mk hv
          repeat' (first | simp only [seval, evx, beq_self_eq_true, encB_def, encN_def, sb, eb, insA, encIns, ins_dec, ins_eta, encInts_eq, List.length_append, Nat.mul_one, *] | simp (disch := omega) only [if_pos, if_neg] | refine R.seq ?_ | refine LCB.text ?_ | refine LCB.quiet rfl ?_ | refine R.anyX ?_ | refine R.block ?_ | refine LCB.skip ?_ | refine LCB.exit ?_ | refine LCB.ret ?_ | ((first | refine RetOk.val hcl ?_ | refine Weak.at hcl ?_); simp only [seval, evw, List.forall_mem_cons, List.forall_mem_map, List.forall_mem_append, List.not_mem_nil, encB_def, encN_def, sb, eb, insA, encIns, ins_dec, ins_eta, encInts_eq, List.length_append, Nat.mul_one, *]) | ((first | refine LCB.cond (by simp only [seval, evx] <;> rfl) ?_ ?_ | refine wpG_split (by simp only [seval, evx] <;> rfl) ?_ ?_ | refine wxG_split (by simp only [seval, evx] <;> rfl) ?_ ?_) <;> (intro hc; try simp only [seval, nf] at hc)) | refine ACalls.inst ?_ | refine CallX.inst ?_ | (with_reducible refine And.intro ?_ ?_) | exact True.intro | refine CallX.pure hn.of ?_ | refine ACalls.pure hn.of ?_ | refine ACalls.pure h1.of ?_ | refine ACalls.pure h2.of ?_ | refine ACalls.pure hw1.of ?_ | refine ACalls.pure hw2.of ?_ | refine ACalls.pure hmv.of ?_ | refine ACalls.pure hn1.of ?_ | refine ACalls.pure hn2.of ?_)
          refine ⟨(j + 1, o1 ++ [⟨2, v, 8 + v, 0, 0, 0⟩]), ⟨hlj, by simpa using c3.of, hq2.of⟩, by simp only; omega, Weak.at hcl ?_⟩
          simp only [seval, evw, List.forall_mem_cons, List.forall_mem_map, List.forall_mem_append, List.not_mem_nil, encB_def, encN_def, sb, eb, insA, encIns, ins_dec, ins_eta, encInts_eq, List.length_append, Nat.mul_one, *]
        · have hje : j = l1.length := by omega
          subst hje
          rw [List.take_length] at hq1
          have g1 : ¬ (l1.length : Int) < (l1.length : Int) := by omega
          obtain ⟨c1, c2⟩ : (o1.length + 1) * 48 ≤ 140737488355328 ∧ o1.length ≤ 9223372036854775806 := by
            have := hol.of; have := hl1.of
            exact ⟨by omega, by omega⟩
          have ho2 : o1.length ≤ out.length + 3 := by have := hl1.of; omega
          replace hq1 := Hold.mk hq1
          replace ho1 := Hold.mk ho1
          replace ho2 := Hold.mk ho2
          repeat' (first | simp only [seval, evx, beq_self_eq_true, encB_def, encN_def, sb, eb, insA, encIns, ins_dec, ins_eta, encInts_eq, List.length_append, Nat.mul_one, *] | simp (disch := omega) only [if_pos, if_neg] | refine R.seq ?_ | refine LCB.text ?_ | refine LCB.quiet rfl ?_ | refine R.anyX ?_ | refine R.block ?_ | refine LCB.skip ?_ | refine LCB.exit ?_ | refine LCB.ret ?_ | ((first | refine RetOk.val hcl ?_ | refine Weak.at hcl ?_); simp only [seval, evw, List.forall_mem_cons, List.forall_mem_map, List.forall_mem_append, List.not_mem_nil, encB_def, encN_def, sb, eb, insA, encIns, ins_dec, ins_eta, encInts_eq, List.length_append, Nat.mul_one, *]) | ((first | refine LCB.cond (by simp only [seval, evx] <;> rfl) ?_ ?_ | refine wpG_split (by simp only [seval, evx] <;> rfl) ?_ ?_ | refine wxG_split (by simp only [seval, evx] <;> rfl) ?_ ?_) <;> (intro hc; try simp only [seval, nf] at hc)) | refine ACalls.inst ?_ | refine CallX.inst ?_ | (with_reducible refine And.intro ?_ ?_) | exact True.intro | refine CallX.pure hn.of ?_ | refine ACalls.pure hn.of ?_ | refine ACalls.pure h1.of ?_ | refine ACalls.pure h2.of ?_ | refine ACalls.pure hw1.of ?_ | refine ACalls.pure hw2.of ?_ | refine ACalls.pure hmv.of ?_ | refine ACalls.pure hn1.of ?_ | refine ACalls.pure hn2.of ?_)
          refine R.loop (S := Nat × List Ins) ⟨fun y => [(6, .sl 6 H.length y.2.length 0 y.2.length), (7, .sl 1 (H.length + 1) (beg.length + 1) 0 (beg.length + 1)), (44, .list (f.map encIns)), (45, .int .i64 (f.length : Int)), (46, .int .i64 (i : Int)), (77, .list (l2.map encI)), (78, .int .i64 (l2.length : Int)), (79, .int .i64 (y.1 : Int))],
            fun y => H ++ [.vec 6 (y.2.map encIns), .vec 1 (beg.map encN ++ [[.int .i64 (out.length : Int)]])],
            fun y => y.1 ≤ l2.length ∧ y.2.length = o1.length + 1 + y.1 ∧ y.2 = o1 ++ [x] ++ (l2.take y.1).map (fun r => movI (8 + r) r), fun y => l2.length - y.1⟩ (0, o1 ++ [x]) ⟨Nat.zero_le _, by simp, by simp⟩ (Weak.at hcl ?_) ?_
          · simp only [seval, evw, List.forall_mem_cons, List.forall_mem_map, List.forall_mem_append, List.not_mem_nil, encB_def, encN_def, sb, eb, insA, encIns, ins_dec, ins_eta, encInts_eq, List.length_append, Nat.mul_one, *]
          · rintro ⟨m, o2⟩ ⟨hm, ho3, hq3⟩
            simp only at hm ho3 hq3 ⊢
            by_cases hlm : m < l2.length
            · have hgj := getD_encI' hlm
              have hq4 : o2 ++ [movI (8 + l2.getD m 0) (l2.getD m 0)] = o1 ++ [x] ++ (l2.take (m + 1)).map (fun r => movI (8 + r) r) := by rw [hq3, take_ints hlm]; simp
              have hv := hget.of (l2.getD m 0) (by simp [List.getD, hlm])
              generalize l2.getD m 0 = v at *
              have g1 : (m : Int) < (l2.length : Int) := by omega
              have g3 : IntKind.i64.wrap ((m : Int) + 1) = ((m + 1 : Nat) : Int) := by have := hl2.of; rw [IntKind.wrap_i64]; omega
              have g4 : IntKind.i64.wrap (8 + v) = 8 + v := by rw [IntKind.wrap_i64]; omega
              have hmv := alloc_move_ok (8 + v) v
              have hmq : movI (8 + v) v = ⟨2, 8 + v, v, 0, 0, 0⟩ := rfl
              rw [hmq] at hmv hq4
              replace hmv := Hold.mk hmv
              obtain ⟨c1, c2, c3⟩ : (o2.length + 1) * 48 ≤ 140737488355328 ∧ o2.length ≤ 9223372036854775806 ∧ o2.length + 1 = o1.length + 1 + (m + 1) := by
                have := hol.of; have := hl2.of; have := ho2.of
                exact ⟨by omega, by omega, by omega⟩
              replace c3 := Hold.mk c3
              replace hq3 := Hold.mk hq3
              replace hq4 := Hold.mk hq4
              replace ho3 := Hold.mk ho3
              replace hv := Hold.mk hv
              repeat' (first | simp only [seval, evx, beq_self_eq_true, encB_def, encN_def, sb, eb, insA, encIns, ins_dec, ins_eta, encInts_eq, List.length_append, Nat.mul_one, *] | simp (disch := omega) only [if_pos, if_neg] | refine R.seq ?_ | refine LCB.text ?_ | refine LCB.quiet rfl ?_ | refine R.anyX ?_ | refine R.block ?_ | refine LCB.skip ?_ | refine LCB.exit ?_ | refine LCB.ret ?_ | ((first | refine RetOk.val hcl ?_ | refine Weak.at hcl ?_); simp only [seval, evw, List.forall_mem_cons, List.forall_mem_map, List.forall_mem_append, List.not_mem_nil, encB_def, encN_def, sb, eb, insA, encIns, ins_dec, ins_eta, encInts_eq, List.length_append, Nat.mul_one, *]) | ((first | refine LCB.cond (by simp only [seval, evx] <;> rfl) ?_ ?_ | refine wpG_split (by simp only [seval, evx] <;> rfl) ?_ ?_ | refine wxG_split (by simp only [seval, evx] <;> rfl) ?_ ?_) <;> (intro hc; try simp only [seval, nf] at hc)) | refine ACalls.inst ?_ | refine CallX.inst ?_ | (with_reducible refine And.intro ?_ ?_) | exact True.intro | refine CallX.pure hn.of ?_ | refine ACalls.pure hn.of ?_ | refine ACalls.pure h1.of ?_ | refine ACalls.pure h2.of ?_ | refine ACalls.pure hw1.of ?_ | refine ACalls.pure hw2.of ?_ | refine ACalls.pure hmv.of ?_ | refine ACalls.pure hn1.of ?_ | refine ACalls.pure hn2.of ?_)
              refine ⟨(m + 1, o2 ++ [⟨2, 8 + v, v, 0, 0, 0⟩]), ⟨hlm, by simpa [Nat.add_assoc] using c3.of, by simpa using hq4.of⟩, by simp only; omega, Weak.at hcl ?_⟩
              simp only [seval, evw, List.forall_mem_cons, List.forall_mem_map, List.forall_mem_append, List.not_mem_nil, encB_def, encN_def, sb, eb, insA, encIns, ins_dec, ins_eta, encInts_eq, List.length_append, Nat.mul_one, *]
            · have hme : m = l2.length := by omega
              subst hme
              rw [List.take_length] at hq3
              have g1 : ¬ (l2.length : Int) < (l2.length : Int) := by omega
              have hfin : spreadL (f.take (i + 1)) = o2 := by rw [hos.of, hq3, hq1.of]; simp
              replace hq3 := Hold.mk hq3
              replace ho3 := Hold.mk ho3
              replace hfin := Hold.mk hfin
              repeat' (first | simp only [seval, evx, beq_self_eq_true, encB_def, encN_def, sb, eb, insA, encIns, ins_dec, ins_eta, encInts_eq, List.length_append, Nat.mul_one, *] | simp (disch := omega) only [if_pos, if_neg] | refine R.seq ?_ | refine LCB.text ?_ | refine LCB.quiet rfl ?_ | refine R.anyX ?_ | refine R.block ?_ | refine LCB.skip ?_ | refine LCB.exit ?_ | refine LCB.ret ?_ | ((first | refine RetOk.val hcl ?_ | refine Weak.at hcl ?_); simp only [seval, evw, List.forall_mem_cons, List.forall_mem_map, List.forall_mem_append, List.not_mem_nil, encB_def, encN_def, sb, eb, insA, encIns, ins_dec, ins_eta, encInts_eq, List.length_append, Nat.mul_one, *]) | ((first | refine LCB.cond (by simp only [seval, evx] <;> rfl) ?_ ?_ | refine wpG_split (by simp only [seval, evx] <;> rfl) ?_ ?_ | refine wxG_split (by simp only [seval, evx] <;> rfl) ?_ ?_) <;> (intro hc; try simp only [seval, nf] at hc)) | refine ACalls.inst ?_ | refine CallX.inst ?_ | (with_reducible refine And.intro ?_ ?_) | exact True.intro | refine CallX.pure hn.of ?_ | refine ACalls.pure hn.of ?_ | refine ACalls.pure h1.of ?_ | refine ACalls.pure h2.of ?_ | refine ACalls.pure hw1.of ?_ | refine ACalls.pure hw2.of ?_ | refine ACalls.pure hmv.of ?_ | refine ACalls.pure hn1.of ?_ | refine ACalls.pure hn2.of ?_)
              refine ⟨(i + 1, o2, beg ++ [out.length]), ⟨hlt, hfin.of.symm, hbs.of.symm⟩, by simp only; omega, Weak.at hcl ?_⟩
              simp only [seval, evw, List.forall_mem_cons, List.forall_mem_map, List.forall_mem_append, List.not_mem_nil, encB_def, encN_def, sb, eb, insA, encIns, ins_dec, ins_eta, encInts_eq, List.length_append, Nat.mul_one, *]
    · have hie : i = f.length := by omega
      subst hie
      rw [List.take_length] at ho
      have e1 : ¬ (f.length : Int) < (f.length : Int) := by omega
      replace ho := Hold.mk ho
      replace hb := Hold.mk hb
      repeat' (first | simp only [seval, evx, beq_self_eq_true, encB_def, encN_def, sb, eb, insA, encIns, ins_dec, ins_eta, encInts_eq, List.length_append, Nat.mul_one, *] | simp (disch := omega) only [if_pos, if_neg] | refine R.seq ?_ | refine LCB.text ?_ | refine LCB.quiet rfl ?_ | refine R.anyX ?_ | refine R.block ?_ | refine LCB.skip ?_ | refine LCB.exit ?_ | refine LCB.ret ?_ | ((first | refine RetOk.val hcl ?_ | refine Weak.at hcl ?_); simp only [seval, evw, List.forall_mem_cons, List.forall_mem_map, List.forall_mem_append, List.not_mem_nil, encB_def, encN_def, sb, eb, insA, encIns, ins_dec, ins_eta, encInts_eq, List.length_append, Nat.mul_one, *]) | ((first | refine LCB.cond (by simp only [seval, evx] <;> rfl) ?_ ?_ | refine wpG_split (by simp only [seval, evx] <;> rfl) ?_ ?_ | refine wxG_split (by simp only [seval, evx] <;> rfl) ?_ ?_) <;> (intro hc; try simp only [seval, nf] at hc)) | refine ACalls.inst ?_ | refine CallX.inst ?_ | (with_reducible refine And.intro ?_ ?_) | exact True.intro | refine CallX.pure hn.of ?_ | refine ACalls.pure hn.of ?_ | refine ACalls.pure h1.of ?_ | refine ACalls.pure h2.of ?_ | refine ACalls.pure hw1.of ?_ | refine ACalls.pure hw2.of ?_ | refine ACalls.pure hmv.of ?_ | refine ACalls.pure hn1.of ?_ | refine ACalls.pure hn2.of ?_)
      refine ⟨(out, beg), ⟨ho.of, hb.of⟩, Weak.at hcl ?_⟩
      simp only [seval, evw, List.forall_mem_cons, List.forall_mem_map, List.forall_mem_append, List.not_mem_nil, encB_def, encN_def, sb, eb, insA, encIns, ins_dec, ins_eta, encInts_eq, List.length_append, Nat.mul_one, *]
  · rintro ⟨out, beg⟩ ⟨ho, hb⟩
    simp only at ho hb ⊢
    have hol : Hold (out.length ≤ 2000) := ⟨by rw [ho]; have := spread_len f; omega⟩
    have hbl : Hold (beg.length = f.length) := ⟨by rw [hb, begN_len]⟩
    have hbg : Hold (∀ j, j < f.length → (beg.map encN)[j]? = some [.int .i64 (begOf f j : Int)]) := ⟨fun j hj => by rw [hb]; exact begN_get hj⟩
    rw [← ho] at hjmp hfull hgood
    clear ho hb hs hreg
    by_cases hb : 200 < out.length
    · have hr := hfull.of hb
      have e1 : (200 : Int) < (out.length : Int) := by omega
      clear hgood
      repeat' (first | simp only [seval, evx, beq_self_eq_true, encB_def, encN_def, sb, eb, insA, encIns, ins_dec, ins_eta, encInts_eq, List.length_append, Nat.mul_one, *] | simp (disch := omega) only [if_pos, if_neg] | refine R.seq ?_ | refine LCB.text ?_ | refine LCB.quiet rfl ?_ | refine R.anyX ?_ | refine R.block ?_ | refine LCB.skip ?_ | refine LCB.exit ?_ | refine LCB.ret ?_ | ((first | refine RetOk.val hcl ?_ | refine Weak.at hcl ?_); simp only [seval, evw, List.forall_mem_cons, List.forall_mem_map, List.forall_mem_append, List.not_mem_nil, encB_def, encN_def, sb, eb, insA, encIns, ins_dec, ins_eta, encInts_eq, List.length_append, Nat.mul_one, *]) | ((first | refine LCB.cond (by simp only [seval, evx] <;> rfl) ?_ ?_ | refine wpG_split (by simp only [seval, evx] <;> rfl) ?_ ?_ | refine wxG_split (by simp only [seval, evx] <;> rfl) ?_ ?_) <;> (intro hc; try simp only [seval, nf] at hc)) | refine ACalls.inst ?_ | refine CallX.inst ?_ | (with_reducible refine And.intro ?_ ?_) | exact True.intro | refine CallX.pure hn.of ?_ | refine ACalls.pure hn.of ?_ | refine ACalls.pure h1.of ?_ | refine ACalls.pure h2.of ?_ | refine ACalls.pure hw1.of ?_ | refine ACalls.pure hw2.of ?_ | refine ACalls.pure hmv.of ?_ | refine ACalls.pure hn1.of ?_ | refine ACalls.pure hn2.of ?_)
    have hr := hgood.of hb
    have e1 : ¬ (200 : Int) < (out.length : Int) := by omega
    clear hfull hgood
    rw [hr]
    replace hr := Hold.mk hr
    repeat' (first | simp only [seval, evx, beq_self_eq_true, encB_def, encN_def, sb, eb, insA, encIns, ins_dec, ins_eta, encInts_eq, List.length_append, Nat.mul_one, *] | simp (disch := omega) only [if_pos, if_neg] | refine R.seq ?_ | refine LCB.text ?_ | refine LCB.quiet rfl ?_ | refine R.anyX ?_ | refine R.block ?_ | refine LCB.skip ?_ | refine LCB.exit ?_ | refine LCB.ret ?_ | ((first | refine RetOk.val hcl ?_ | refine Weak.at hcl ?_); simp only [seval, evw, List.forall_mem_cons, List.forall_mem_map, List.forall_mem_append, List.not_mem_nil, encB_def, encN_def, sb, eb, insA, encIns, ins_dec, ins_eta, encInts_eq, List.length_append, Nat.mul_one, *]) | ((first | refine LCB.cond (by simp only [seval, evx] <;> rfl) ?_ ?_ | refine wpG_split (by simp only [seval, evx] <;> rfl) ?_ ?_ | refine wxG_split (by simp only [seval, evx] <;> rfl) ?_ ?_) <;> (intro hc; try simp only [seval, nf] at hc)) | refine ACalls.inst ?_ | refine CallX.inst ?_ | (with_reducible refine And.intro ?_ ?_) | exact True.intro | refine CallX.pure hn.of ?_ | refine ACalls.pure hn.of ?_ | refine ACalls.pure h1.of ?_ | refine ACalls.pure h2.of ?_ | refine ACalls.pure hw1.of ?_ | refine ACalls.pure hw2.of ?_ | refine ACalls.pure hmv.of ?_ | refine ACalls.pure hn1.of ?_ | refine ACalls.pure hn2.of ?_)
    refine R.loop (S := Nat × List Ins) ⟨fun y => [(6, .sl 6 H.length y.2.length 0 y.2.length), (7, .sl 1 (H.length + 1) beg.length 0 beg.length), (96, .int .i64 (out.length : Int)), (97, .int .i64 (y.1 : Int))], fun y => H ++ [.vec 6 (y.2.map encIns), .vec 1 (beg.map encN)],
      fun y => y.1 ≤ out.length ∧ y.2.length = out.length ∧ y.2 = (out.take y.1).map (fixI f) ++ out.drop y.1, fun y => out.length - y.1⟩ (0, out) ⟨Nat.zero_le _, rfl, by simp⟩ (Weak.at hcl ?_) ?_
    · simp only [seval, evw, List.forall_mem_cons, List.forall_mem_map, List.forall_mem_append, List.not_mem_nil, encB_def, encN_def, sb, eb, insA, encIns, ins_dec, ins_eta, encInts_eq, List.length_append, Nat.mul_one, *]
    rintro ⟨i, cur⟩ ⟨hi, hcl2, hq⟩
    simp only at hi hcl2 hq ⊢
    by_cases hlt : i < out.length
    · have hgc : cur.getD i noIns = out.getD i noIns := by
        rw [hq, List.getD_eq_getElem?_getD, List.getElem?_append_right (by simp; omega)]
        simp [List.getD, hlt, Nat.min_eq_left (Nat.le_of_lt hlt)]
      have hgi : (cur.map encIns)[i]? = some (encIns (out.getD i noIns)) := by
        rw [List.getElem?_map, ← hgc, List.getD_eq_getElem?_getD, List.getElem?_eq_getElem (by omega)]
        rfl
      have hset : cur.set i (fixI f (out.getD i noIns)) = (out.take (i + 1)).map (fixI f) ++ out.drop (i + 1) := by
        rw [hq, List.set_append_right _ _ (by simp; omega), take_ins hlt, drop_ins hlt]
        simp [Nat.min_eq_left (Nat.le_of_lt hlt)]
      have hsame : fixI f (out.getD i noIns) = out.getD i noIns → cur.set i (fixI f (out.getD i noIns)) = cur := by
        intro hy
        rw [hy, ← hgc, List.getD_eq_getElem?_getD, List.getElem?_eq_getElem (by omega)]
        simp
      have hj := hjmp.of _ (getD_mem hlt)
      have hset2 : ∀ y : Ins, (cur.map encIns).set i (encIns y) = (cur.set i y).map encIns := fun y => List.map_set.symm
      have hsl : ∀ y : Ins, (cur.set i y).length = out.length := fun y => by rw [List.length_set, hcl2]
      clear hgc hq
      generalize out.getD i noIns = x at *
      have g1 : (i : Int) < (out.length : Int) := by omega
      have g3 : IntKind.i64.wrap ((i : Int) + 1) = ((i + 1 : Nat) : Int) := by have := hol.of; rw [IntKind.wrap_i64]; omega
      have g5 : (out.map encIns).length = out.length := List.length_map _
      by_cases ho : x.op = 16 ∨ x.op = 17
      · obtain ⟨h0, h1⟩ := hj ho
        obtain ⟨n, hn⟩ := Int.eq_ofNat_of_zero_le h0
        have hx : fixI f x = { x with to := (begOf f n : Int) } := by unfold fixI; rw [if_pos ho, hn]; rfl
        have hbn := hbg.of n (by omega)
        have g7 : (n : Int) < (beg.length : Int) := by have := hbl.of; omega
        rw [hx] at hset
        obtain ⟨op, xd, xa, xb, xn, xt⟩ := x
        simp only at ho hn h0 h1 hset hgi
        subst hn
        have hs2 : (cur.map encIns).set i [.int .i64 op, .int .i64 xd, .int .i64 xa, .int .i64 xb, .int .i64 xn, .int .i64 (begOf f n : Int)] = (cur.set i ⟨op, xd, xa, xb, xn, (begOf f n : Int)⟩).map encIns := hset2 ⟨op, xd, xa, xb, xn, (begOf f n : Int)⟩
        have hsl2 := hsl ⟨op, xd, xa, xb, xn, (begOf f n : Int)⟩
        have hgl : (cur.map encIns).length = out.length := by rw [List.length_map, hcl2]
        clear hset2 hsl hsame hj h0 h1 hx
        replace hset := Hold.mk hset
        replace hsl2 := Hold.mk hsl2
        rcases ho with rfl | rfl
        · repeat' (first | simp only [seval, evx, beq_self_eq_true, encB_def, encN_def, sb, eb, insA, encIns, ins_dec, ins_eta, encInts_eq, List.length_append, Nat.mul_one, *] | simp (disch := omega) only [if_pos, if_neg] | refine R.seq ?_ | refine LCB.text ?_ | refine LCB.quiet rfl ?_ | refine R.anyX ?_ | refine R.block ?_ | refine LCB.skip ?_ | refine LCB.exit ?_ | refine LCB.ret ?_ | ((first | refine RetOk.val hcl ?_ | refine Weak.at hcl ?_); simp only [seval, evw, List.forall_mem_cons, List.forall_mem_map, List.forall_mem_append, List.not_mem_nil, encB_def, encN_def, sb, eb, insA, encIns, ins_dec, ins_eta, encInts_eq, List.length_append, Nat.mul_one, *]) | ((first | refine LCB.cond (by simp only [seval, evx] <;> rfl) ?_ ?_ | refine wpG_split (by simp only [seval, evx] <;> rfl) ?_ ?_ | refine wxG_split (by simp only [seval, evx] <;> rfl) ?_ ?_) <;> (intro hc; try simp only [seval, nf] at hc)) | refine ACalls.inst ?_ | refine CallX.inst ?_ | (with_reducible refine And.intro ?_ ?_) | exact True.intro | refine CallX.pure hn.of ?_ | refine ACalls.pure hn.of ?_ | refine ACalls.pure h1.of ?_ | refine ACalls.pure h2.of ?_ | refine ACalls.pure hw1.of ?_ | refine ACalls.pure hw2.of ?_ | refine ACalls.pure hmv.of ?_ | refine ACalls.pure hn1.of ?_ | refine ACalls.pure hn2.of ?_)
          refine ⟨(i + 1, cur.set i ⟨16, xd, xa, xb, xn, (begOf f n : Int)⟩), ⟨hlt, hsl2.of, hset.of⟩, by simp only; omega, Weak.at hcl ?_⟩
          have hsl3 := hsl2.of
          simp only [seval, evw, List.forall_mem_cons, List.forall_mem_map, List.forall_mem_append, List.not_mem_nil, encB_def, encN_def, sb, eb, insA, encIns, ins_dec, ins_eta, encInts_eq, List.length_append, Nat.mul_one, *]
        · repeat' (first | simp only [seval, evx, beq_self_eq_true, encB_def, encN_def, sb, eb, insA, encIns, ins_dec, ins_eta, encInts_eq, List.length_append, Nat.mul_one, *] | simp (disch := omega) only [if_pos, if_neg] | refine R.seq ?_ | refine LCB.text ?_ | refine LCB.quiet rfl ?_ | refine R.anyX ?_ | refine R.block ?_ | refine LCB.skip ?_ | refine LCB.exit ?_ | refine LCB.ret ?_ | ((first | refine RetOk.val hcl ?_ | refine Weak.at hcl ?_); simp only [seval, evw, List.forall_mem_cons, List.forall_mem_map, List.forall_mem_append, List.not_mem_nil, encB_def, encN_def, sb, eb, insA, encIns, ins_dec, ins_eta, encInts_eq, List.length_append, Nat.mul_one, *]) | ((first | refine LCB.cond (by simp only [seval, evx] <;> rfl) ?_ ?_ | refine wpG_split (by simp only [seval, evx] <;> rfl) ?_ ?_ | refine wxG_split (by simp only [seval, evx] <;> rfl) ?_ ?_) <;> (intro hc; try simp only [seval, nf] at hc)) | refine ACalls.inst ?_ | refine CallX.inst ?_ | (with_reducible refine And.intro ?_ ?_) | exact True.intro | refine CallX.pure hn.of ?_ | refine ACalls.pure hn.of ?_ | refine ACalls.pure h1.of ?_ | refine ACalls.pure h2.of ?_ | refine ACalls.pure hw1.of ?_ | refine ACalls.pure hw2.of ?_ | refine ACalls.pure hmv.of ?_ | refine ACalls.pure hn1.of ?_ | refine ACalls.pure hn2.of ?_)
          refine ⟨(i + 1, cur.set i ⟨17, xd, xa, xb, xn, (begOf f n : Int)⟩), ⟨hlt, hsl2.of, hset.of⟩, by simp only; omega, Weak.at hcl ?_⟩
          have hsl3 := hsl2.of
          simp only [seval, evw, List.forall_mem_cons, List.forall_mem_map, List.forall_mem_append, List.not_mem_nil, encB_def, encN_def, sb, eb, insA, encIns, ins_dec, ins_eta, encInts_eq, List.length_append, Nat.mul_one, *]
      · have hx : fixI f x = x := by unfold fixI; rw [if_neg ho]
        have h16 : ¬ x.op = 16 := fun h => ho (.inl h)
        have h17 : ¬ x.op = 17 := fun h => ho (.inr h)
        rw [hsame hx] at hset
        clear hset2 hsl hsame hj ho hx
        replace hset := Hold.mk hset
        repeat' (first | simp only [seval, evx, beq_self_eq_true, encB_def, encN_def, sb, eb, insA, encIns, ins_dec, ins_eta, encInts_eq, List.length_append, Nat.mul_one, *] | simp (disch := omega) only [if_pos, if_neg] | refine R.seq ?_ | refine LCB.text ?_ | refine LCB.quiet rfl ?_ | refine R.anyX ?_ | refine R.block ?_ | refine LCB.skip ?_ | refine LCB.exit ?_ | refine LCB.ret ?_ | ((first | refine RetOk.val hcl ?_ | refine Weak.at hcl ?_); simp only [seval, evw, List.forall_mem_cons, List.forall_mem_map, List.forall_mem_append, List.not_mem_nil, encB_def, encN_def, sb, eb, insA, encIns, ins_dec, ins_eta, encInts_eq, List.length_append, Nat.mul_one, *]) | ((first | refine LCB.cond (by simp only [seval, evx] <;> rfl) ?_ ?_ | refine wpG_split (by simp only [seval, evx] <;> rfl) ?_ ?_ | refine wxG_split (by simp only [seval, evx] <;> rfl) ?_ ?_) <;> (intro hc; try simp only [seval, nf] at hc)) | refine ACalls.inst ?_ | refine CallX.inst ?_ | (with_reducible refine And.intro ?_ ?_) | exact True.intro | refine CallX.pure hn.of ?_ | refine ACalls.pure hn.of ?_ | refine ACalls.pure h1.of ?_ | refine ACalls.pure h2.of ?_ | refine ACalls.pure hw1.of ?_ | refine ACalls.pure hw2.of ?_ | refine ACalls.pure hmv.of ?_ | refine ACalls.pure hn1.of ?_ | refine ACalls.pure hn2.of ?_)
        refine ⟨(i + 1, cur), ⟨hlt, hcl2, hset.of⟩, by simp only; omega, Weak.at hcl ?_⟩
        simp only [seval, evw, List.forall_mem_cons, List.forall_mem_map, List.forall_mem_append, List.not_mem_nil, encB_def, encN_def, sb, eb, insA, encIns, ins_dec, ins_eta, encInts_eq, List.length_append, Nat.mul_one, *]
    · have hie : i = out.length := by omega
      subst hie
      rw [List.take_length, List.drop_length, List.append_nil] at hq
      have hgl : (cur.map encIns).length = out.length := by rw [List.length_map, hcl2]
      have g1 : ¬ (out.length : Int) < (out.length : Int) := by omega
      have hr := hr.of
      rw [← hq] at hr ⊢
      have tk : (cur.map encIns).take out.length = cur.map encIns := List.take_of_length_le (by omega)
      replace hr := Hold.mk hr
      replace hq := Hold.mk hq
      repeat' (first | simp only [seval, evx, beq_self_eq_true, encB_def, encN_def, sb, eb, insA, encIns, ins_dec, ins_eta, encInts_eq, List.length_append, Nat.mul_one, *] | simp (disch := omega) only [if_pos, if_neg] | refine R.seq ?_ | refine LCB.text ?_ | refine LCB.quiet rfl ?_ | refine R.anyX ?_ | refine R.block ?_ | refine LCB.skip ?_ | refine LCB.exit ?_ | refine LCB.ret ?_ | ((first | refine RetOk.val hcl ?_ | refine Weak.at hcl ?_); simp only [seval, evw, List.forall_mem_cons, List.forall_mem_map, List.forall_mem_append, List.not_mem_nil, encB_def, encN_def, sb, eb, insA, encIns, ins_dec, ins_eta, encInts_eq, List.length_append, Nat.mul_one, *]) | ((first | refine LCB.cond (by simp only [seval, evx] <;> rfl) ?_ ?_ | refine wpG_split (by simp only [seval, evx] <;> rfl) ?_ ?_ | refine wxG_split (by simp only [seval, evx] <;> rfl) ?_ ?_) <;> (intro hc; try simp only [seval, nf] at hc)) | refine ACalls.inst ?_ | refine CallX.inst ?_ | (with_reducible refine And.intro ?_ ?_) | exact True.intro | refine CallX.pure hn.of ?_ | refine ACalls.pure hn.of ?_ | refine ACalls.pure h1.of ?_ | refine ACalls.pure h2.of ?_ | refine ACalls.pure hw1.of ?_ | refine ACalls.pure hw2.of ?_ | refine ACalls.pure hmv.of ?_ | refine ACalls.pure hn1.of ?_ | refine ACalls.pure hn2.of ?_)
end Go.Proofs.YtgdopmhgmpkahaaDoor

/-
  alloc: Rename: the code.
-/
namespace Go.Proofs.YtgdopmhgmpkahaaDoor
open Go.RowKit
set_option linter.unusedVariables false
set_option linter.unusedSimpArgs false

theorem alloc_other_ok {G : List AObj} (a b l : Int) (i j : Nat) (h1 : G[i]? = some (.vec 1 [[.int .i64 a]])) (h2 : G[j]? = some (.vec 1 [[.int .i64 b]])) :
    ACalls Tryd.prog 37 [.int .i64 l, .ptr i 1 0 0, .ptr j 1 0 0] G fun r H' => r = .int .i64 (oth a b l) ∧ H' = G := by
  refine ACalls.go alloc_Rename_1.low (by simp) fun hcl => ?_
  have h1' : (G ++ [])[i]? = some (.vec 1 [[.int .i64 a]]) := by rw [List.append_nil]; exact h1
  have h2' : (G ++ [])[j]? = some (.vec 1 [[.int .i64 b]]) := by rw [List.append_nil]; exact h2
  by_cases e1 : l = a
  · have hr : oth a b l = b := by unfold oth; rw [if_pos e1]
    subst e1
    repeat' (first | simp only [seval, evx, beq_self_eq_true, encB_def, encN_def, sb, insA, encIns, ins_dec, ins_eta, encInts_eq, List.length_append, CallA_fn2, List.length_nil, *] | simp (disch := omega) only [if_pos, if_neg] | refine R.seq ?_ | refine LCB.text ?_ | refine LCB.quiet rfl ?_ | refine R.anyX ?_ | refine R.block ?_ | refine LCB.skip ?_ | refine LCB.exit ?_ | refine LCB.ret ?_ | ((first | refine RetOk.val hcl ?_ | refine Weak.at hcl ?_); simp only [seval, evw, List.forall_mem_cons, List.forall_mem_map, List.forall_mem_append, List.not_mem_nil, encB_def, encN_def, sb, insA, encIns, ins_dec, ins_eta, encInts_eq, List.length_append, CallA_fn2, List.length_nil, *]) | ((first | refine LCB.cond (by simp only [seval, evx] <;> rfl) ?_ ?_ | refine wpG_split (by simp only [seval, evx] <;> rfl) ?_ ?_ | refine wxG_split (by simp only [seval, evx] <;> rfl) ?_ ?_) <;> (intro hc; try simp only [seval, nf] at hc)) | refine ACalls.inst ?_ | refine CallX.inst ?_ | (with_reducible refine And.intro ?_ ?_) | exact True.intro)
  · by_cases e2 : l = b
    · subst e2
      have hr : oth a l l = a := by unfold oth; rw [if_neg e1, if_pos rfl]
      repeat' (first | simp only [seval, evx, beq_self_eq_true, encB_def, encN_def, sb, insA, encIns, ins_dec, ins_eta, encInts_eq, List.length_append, CallA_fn2, List.length_nil, *] | simp (disch := omega) only [if_pos, if_neg] | refine R.seq ?_ | refine LCB.text ?_ | refine LCB.quiet rfl ?_ | refine R.anyX ?_ | refine R.block ?_ | refine LCB.skip ?_ | refine LCB.exit ?_ | refine LCB.ret ?_ | ((first | refine RetOk.val hcl ?_ | refine Weak.at hcl ?_); simp only [seval, evw, List.forall_mem_cons, List.forall_mem_map, List.forall_mem_append, List.not_mem_nil, encB_def, encN_def, sb, insA, encIns, ins_dec, ins_eta, encInts_eq, List.length_append, CallA_fn2, List.length_nil, *]) | ((first | refine LCB.cond (by simp only [seval, evx] <;> rfl) ?_ ?_ | refine wpG_split (by simp only [seval, evx] <;> rfl) ?_ ?_ | refine wxG_split (by simp only [seval, evx] <;> rfl) ?_ ?_) <;> (intro hc; try simp only [seval, nf] at hc)) | refine ACalls.inst ?_ | refine CallX.inst ?_ | (with_reducible refine And.intro ?_ ?_) | exact True.intro)
    · have hr : oth a b l = l := by unfold oth; rw [if_neg e1, if_neg e2]
      repeat' (first | simp only [seval, evx, beq_self_eq_true, encB_def, encN_def, sb, insA, encIns, ins_dec, ins_eta, encInts_eq, List.length_append, CallA_fn2, List.length_nil, *] | simp (disch := omega) only [if_pos, if_neg] | refine R.seq ?_ | refine LCB.text ?_ | refine LCB.quiet rfl ?_ | refine R.anyX ?_ | refine R.block ?_ | refine LCB.skip ?_ | refine LCB.exit ?_ | refine LCB.ret ?_ | ((first | refine RetOk.val hcl ?_ | refine Weak.at hcl ?_); simp only [seval, evw, List.forall_mem_cons, List.forall_mem_map, List.forall_mem_append, List.not_mem_nil, encB_def, encN_def, sb, insA, encIns, ins_dec, ins_eta, encInts_eq, List.length_append, CallA_fn2, List.length_nil, *]) | ((first | refine LCB.cond (by simp only [seval, evx] <;> rfl) ?_ ?_ | refine wpG_split (by simp only [seval, evx] <;> rfl) ?_ ?_ | refine wxG_split (by simp only [seval, evx] <;> rfl) ?_ ?_) <;> (intro hc; try simp only [seval, nf] at hc)) | refine ACalls.inst ?_ | refine CallX.inst ?_ | (with_reducible refine And.intro ?_ ?_) | exact True.intro)
theorem ren_no {f : List Ins} {a b : Int} (h : renOk f a b = false) : resP (renF f a b) = .tup [.list [], .int .i64 1] := by unfold renF; rw [h]; rfl
theorem ren_good {f : List Ins} {a b : Int} (h : renOk f a b = true) : resP (renF f a b) = .tup [.list ((f.map (renI a b)).map encIns), .int .i64 0] := by unfold renF; rw [h]; rfl
set_option maxRecDepth 20000 in
set_option maxHeartbeats 16000000 in
theorem alloc_Rename_ok (f : List Ins) (a b : Int) (hfl : f.length ≤ 1000) : Pure Tryd.prog 14 [encFn f, .int .i64 a, .int .i64 b] (resP (renF f a b)) := by
  intro H
  refine ACalls.go alloc_Rename.low (by simp) fun hcl => ?_
  have h1 := asm_Right_ok f
  have hro : renOk f a b = (fnOk f && (!inR 8 a && (!inR 8 b && (inR 24 a && inR 24 b)))) := rfl
  unfold encFn at *
  cases hr : renOk f a b
  · have hR := ren_no hr
    rw [hro] at hr
    rw [hR]
    clear hR hro
    cases c1 : fnOk f
    · rw [c1] at h1
      replace h1 := Hold.mk h1
      replace hr := Hold.mk hr
      repeat' (first | simp only [seval, evx, beq_self_eq_true, encB_def, encN_def, sb, insA, encIns, ins_dec, ins_eta, encInts_eq, List.length_append, CallA_fn2, List.length_nil, *] | simp (disch := omega) only [if_pos, if_neg] | refine R.seq ?_ | refine LCB.text ?_ | refine LCB.quiet rfl ?_ | refine R.anyX ?_ | refine R.block ?_ | refine LCB.skip ?_ | refine LCB.exit ?_ | refine LCB.ret ?_ | ((first | refine RetOk.val hcl ?_ | refine Weak.at hcl ?_); simp only [seval, evw, List.forall_mem_cons, List.forall_mem_map, List.forall_mem_append, List.not_mem_nil, encB_def, encN_def, sb, insA, encIns, ins_dec, ins_eta, encInts_eq, List.length_append, CallA_fn2, List.length_nil, *]) | ((first | refine LCB.cond (by simp only [seval, evx] <;> rfl) ?_ ?_ | refine wpG_split (by simp only [seval, evx] <;> rfl) ?_ ?_ | refine wxG_split (by simp only [seval, evx] <;> rfl) ?_ ?_) <;> (intro hc; try simp only [seval, nf] at hc)) | refine ACalls.inst ?_ | refine CallX.inst ?_ | (with_reducible refine And.intro ?_ ?_) | exact True.intro | refine CallX.pure h1.of ?_ | refine ACalls.pure h1.of ?_ | refine ACalls.pure hn.of ?_ | (refine (alloc_other_ok a b _ H.length (H.length + 1) (by simp only [seval, evo, beq_self_eq_true, encB_def, encN_def, sb, insA, encIns, ins_dec, ins_eta, encInts_eq, List.length_append, CallA_fn2, List.length_nil, *]) (by simp only [seval, evo, beq_self_eq_true, encB_def, encN_def, sb, insA, encIns, ins_dec, ins_eta, encInts_eq, List.length_append, CallA_fn2, List.length_nil, *])).mono ?_; rintro r' H' ⟨rfl, rfl⟩))
    rw [c1] at h1 hr
    replace h1 := Hold.mk h1
    cases c2 : inR 8 a
    · cases c3 : inR 8 b
      · cases c4 : inR 24 a
        · replace hr := Hold.mk hr
          repeat' (first | simp only [seval, evx, beq_self_eq_true, encB_def, encN_def, sb, insA, encIns, ins_dec, ins_eta, encInts_eq, List.length_append, CallA_fn2, List.length_nil, *] | simp (disch := omega) only [if_pos, if_neg] | refine R.seq ?_ | refine LCB.text ?_ | refine LCB.quiet rfl ?_ | refine R.anyX ?_ | refine R.block ?_ | refine LCB.skip ?_ | refine LCB.exit ?_ | refine LCB.ret ?_ | ((first | refine RetOk.val hcl ?_ | refine Weak.at hcl ?_); simp only [seval, evw, List.forall_mem_cons, List.forall_mem_map, List.forall_mem_append, List.not_mem_nil, encB_def, encN_def, sb, insA, encIns, ins_dec, ins_eta, encInts_eq, List.length_append, CallA_fn2, List.length_nil, *]) | ((first | refine LCB.cond (by simp only [seval, evx] <;> rfl) ?_ ?_ | refine wpG_split (by simp only [seval, evx] <;> rfl) ?_ ?_ | refine wxG_split (by simp only [seval, evx] <;> rfl) ?_ ?_) <;> (intro hc; try simp only [seval, nf] at hc)) | refine ACalls.inst ?_ | refine CallX.inst ?_ | (with_reducible refine And.intro ?_ ?_) | exact True.intro | refine CallX.pure h1.of ?_ | refine ACalls.pure h1.of ?_ | refine ACalls.pure hn.of ?_ | (refine (alloc_other_ok a b _ H.length (H.length + 1) (by simp only [seval, evo, beq_self_eq_true, encB_def, encN_def, sb, insA, encIns, ins_dec, ins_eta, encInts_eq, List.length_append, CallA_fn2, List.length_nil, *]) (by simp only [seval, evo, beq_self_eq_true, encB_def, encN_def, sb, insA, encIns, ins_dec, ins_eta, encInts_eq, List.length_append, CallA_fn2, List.length_nil, *])).mono ?_; rintro r' H' ⟨rfl, rfl⟩))
        · cases c5 : inR 24 b
          · replace hr := Hold.mk hr
            repeat' (first | simp only [seval, evx, beq_self_eq_true, encB_def, encN_def, sb, insA, encIns, ins_dec, ins_eta, encInts_eq, List.length_append, CallA_fn2, List.length_nil, *] | simp (disch := omega) only [if_pos, if_neg] | refine R.seq ?_ | refine LCB.text ?_ | refine LCB.quiet rfl ?_ | refine R.anyX ?_ | refine R.block ?_ | refine LCB.skip ?_ | refine LCB.exit ?_ | refine LCB.ret ?_ | ((first | refine RetOk.val hcl ?_ | refine Weak.at hcl ?_); simp only [seval, evw, List.forall_mem_cons, List.forall_mem_map, List.forall_mem_append, List.not_mem_nil, encB_def, encN_def, sb, insA, encIns, ins_dec, ins_eta, encInts_eq, List.length_append, CallA_fn2, List.length_nil, *]) | ((first | refine LCB.cond (by simp only [seval, evx] <;> rfl) ?_ ?_ | refine wpG_split (by simp only [seval, evx] <;> rfl) ?_ ?_ | refine wxG_split (by simp only [seval, evx] <;> rfl) ?_ ?_) <;> (intro hc; try simp only [seval, nf] at hc)) | refine ACalls.inst ?_ | refine CallX.inst ?_ | (with_reducible refine And.intro ?_ ?_) | exact True.intro | refine CallX.pure h1.of ?_ | refine ACalls.pure h1.of ?_ | refine ACalls.pure hn.of ?_ | (refine (alloc_other_ok a b _ H.length (H.length + 1) (by simp only [seval, evo, beq_self_eq_true, encB_def, encN_def, sb, insA, encIns, ins_dec, ins_eta, encInts_eq, List.length_append, CallA_fn2, List.length_nil, *]) (by simp only [seval, evo, beq_self_eq_true, encB_def, encN_def, sb, insA, encIns, ins_dec, ins_eta, encInts_eq, List.length_append, CallA_fn2, List.length_nil, *])).mono ?_; rintro r' H' ⟨rfl, rfl⟩))
          · rw [c2, c3, c4, c5] at hr
            cases hr
      · replace hr := Hold.mk hr
        repeat' (first | simp only [seval, evx, beq_self_eq_true, encB_def, encN_def, sb, insA, encIns, ins_dec, ins_eta, encInts_eq, List.length_append, CallA_fn2, List.length_nil, *] | simp (disch := omega) only [if_pos, if_neg] | refine R.seq ?_ | refine LCB.text ?_ | refine LCB.quiet rfl ?_ | refine R.anyX ?_ | refine R.block ?_ | refine LCB.skip ?_ | refine LCB.exit ?_ | refine LCB.ret ?_ | ((first | refine RetOk.val hcl ?_ | refine Weak.at hcl ?_); simp only [seval, evw, List.forall_mem_cons, List.forall_mem_map, List.forall_mem_append, List.not_mem_nil, encB_def, encN_def, sb, insA, encIns, ins_dec, ins_eta, encInts_eq, List.length_append, CallA_fn2, List.length_nil, *]) | ((first | refine LCB.cond (by simp only [seval, evx] <;> rfl) ?_ ?_ | refine wpG_split (by simp only [seval, evx] <;> rfl) ?_ ?_ | refine wxG_split (by simp only [seval, evx] <;> rfl) ?_ ?_) <;> (intro hc; try simp only [seval, nf] at hc)) | refine ACalls.inst ?_ | refine CallX.inst ?_ | (with_reducible refine And.intro ?_ ?_) | exact True.intro | refine CallX.pure h1.of ?_ | refine ACalls.pure h1.of ?_ | refine ACalls.pure hn.of ?_ | (refine (alloc_other_ok a b _ H.length (H.length + 1) (by simp only [seval, evo, beq_self_eq_true, encB_def, encN_def, sb, insA, encIns, ins_dec, ins_eta, encInts_eq, List.length_append, CallA_fn2, List.length_nil, *]) (by simp only [seval, evo, beq_self_eq_true, encB_def, encN_def, sb, insA, encIns, ins_dec, ins_eta, encInts_eq, List.length_append, CallA_fn2, List.length_nil, *])).mono ?_; rintro r' H' ⟨rfl, rfl⟩))
    · replace hr := Hold.mk hr
      repeat' (first | simp only [seval, evx, beq_self_eq_true, encB_def, encN_def, sb, insA, encIns, ins_dec, ins_eta, encInts_eq, List.length_append, CallA_fn2, List.length_nil, *] | simp (disch := omega) only [if_pos, if_neg] | refine R.seq ?_ | refine LCB.text ?_ | refine LCB.quiet rfl ?_ | refine R.anyX ?_ | refine R.block ?_ | refine LCB.skip ?_ | refine LCB.exit ?_ | refine LCB.ret ?_ | ((first | refine RetOk.val hcl ?_ | refine Weak.at hcl ?_); simp only [seval, evw, List.forall_mem_cons, List.forall_mem_map, List.forall_mem_append, List.not_mem_nil, encB_def, encN_def, sb, insA, encIns, ins_dec, ins_eta, encInts_eq, List.length_append, CallA_fn2, List.length_nil, *]) | ((first | refine LCB.cond (by simp only [seval, evx] <;> rfl) ?_ ?_ | refine wpG_split (by simp only [seval, evx] <;> rfl) ?_ ?_ | refine wxG_split (by simp only [seval, evx] <;> rfl) ?_ ?_) <;> (intro hc; try simp only [seval, nf] at hc)) | refine ACalls.inst ?_ | refine CallX.inst ?_ | (with_reducible refine And.intro ?_ ?_) | exact True.intro | refine CallX.pure h1.of ?_ | refine ACalls.pure h1.of ?_ | refine ACalls.pure hn.of ?_ | (refine (alloc_other_ok a b _ H.length (H.length + 1) (by simp only [seval, evo, beq_self_eq_true, encB_def, encN_def, sb, insA, encIns, ins_dec, ins_eta, encInts_eq, List.length_append, CallA_fn2, List.length_nil, *]) (by simp only [seval, evo, beq_self_eq_true, encB_def, encN_def, sb, insA, encIns, ins_dec, ins_eta, encInts_eq, List.length_append, CallA_fn2, List.length_nil, *])).mono ?_; rintro r' H' ⟨rfl, rfl⟩))
  have hR := ren_good hr
  rw [hro] at hr
  simp only [Bool.and_eq_true, Bool.not_eq_true'] at hr
  obtain ⟨c1, c2, c3, c4, c5⟩ := hr
  rw [c1] at h1
  rw [hR]
  clear hR hro
  replace h1 := Hold.mk h1
  replace c1 := Hold.mk c1
  (refine R.seq ?_; refine LCB.text ?_; repeat' (first | simp only [seval, evo, beq_self_eq_true, encB_def, encN_def, sb, insA, encIns, ins_dec, ins_eta, encInts_eq, List.length_append, CallA_fn2, List.length_nil, *] | simp (disch := omega) only [if_pos, if_neg]))
  refine R.cut [(0, .list (f.map encIns)), (4, .ptr H.length 1 0 0), (5, .ptr (H.length + 1) 1 0 0)] (H ++ [.vec 1 [[.int .i64 a]], .vec 1 [[.int .i64 b]]]) ?_ ?_
  · repeat' (first | simp only [seval, evx, beq_self_eq_true, encB_def, encN_def, sb, insA, encIns, ins_dec, ins_eta, encInts_eq, List.length_append, CallA_fn2, List.length_nil, *] | simp (disch := omega) only [if_pos, if_neg] | refine R.seq ?_ | refine LCB.text ?_ | refine LCB.quiet rfl ?_ | refine R.anyX ?_ | refine R.block ?_ | refine LCB.skip ?_ | refine LCB.exit ?_ | refine LCB.ret ?_ | ((first | refine RetOk.val hcl ?_ | refine Weak.at hcl ?_); simp only [seval, evw, List.forall_mem_cons, List.forall_mem_map, List.forall_mem_append, List.not_mem_nil, encB_def, encN_def, sb, insA, encIns, ins_dec, ins_eta, encInts_eq, List.length_append, CallA_fn2, List.length_nil, *]) | ((first | refine LCB.cond (by simp only [seval, evx] <;> rfl) ?_ ?_ | refine wpG_split (by simp only [seval, evx] <;> rfl) ?_ ?_ | refine wxG_split (by simp only [seval, evx] <;> rfl) ?_ ?_) <;> (intro hc; try simp only [seval, nf] at hc)) | refine ACalls.inst ?_ | refine CallX.inst ?_ | (with_reducible refine And.intro ?_ ?_) | exact True.intro | refine CallX.pure h1.of ?_ | refine ACalls.pure h1.of ?_ | refine ACalls.pure hn.of ?_ | (refine (alloc_other_ok a b _ H.length (H.length + 1) (by simp only [seval, evo, beq_self_eq_true, encB_def, encN_def, sb, insA, encIns, ins_dec, ins_eta, encInts_eq, List.length_append, CallA_fn2, List.length_nil, *]) (by simp only [seval, evo, beq_self_eq_true, encB_def, encN_def, sb, insA, encIns, ins_dec, ins_eta, encInts_eq, List.length_append, CallA_fn2, List.length_nil, *])).mono ?_; rintro r' H' ⟨rfl, rfl⟩))
  clear c2 c3 c4 c5
  have rk : rowsOk 6 (f.map encIns) = true := rk_map fun x _ => ⟨rfl, rfl⟩
  have b1 : f.length * 48 ≤ 140737488355328 := by omega
  have b2 : f.length ≤ 9223372036854775806 := by omega
  have b3 : (0 + f.length) * 48 ≤ 140737488355328 := by omega
  (refine R.seq ?_; refine LCB.text ?_; repeat' (first | simp only [seval, evo, beq_self_eq_true, encB_def, encN_def, sb, insA, encIns, ins_dec, ins_eta, encInts_eq, List.length_append, CallA_fn2, List.length_nil, *] | simp (disch := omega) only [if_pos, if_neg]))
  (refine R.seq ?_; refine LCB.text ?_; repeat' (first | simp only [seval, evo, beq_self_eq_true, encB_def, encN_def, sb, insA, encIns, ins_dec, ins_eta, encInts_eq, List.length_append, CallA_fn2, List.length_nil, *] | simp (disch := omega) only [if_pos, if_neg]))
  refine R.seq ?_
  (refine R.seq ?_; refine LCB.text ?_; repeat' (first | simp only [seval, evo, beq_self_eq_true, encB_def, encN_def, sb, insA, encIns, ins_dec, ins_eta, encInts_eq, List.length_append, CallA_fn2, List.length_nil, *] | simp (disch := omega) only [if_pos, if_neg]))
  refine R.block (R.loop (S := Nat × List Ins) ⟨fun y => [(8, .fn (.func 37) [] [.ptr H.length 1 0 0, .ptr (H.length + 1) 1 0 0]), (9, .sl 6 (H.length + 2) y.2.length 0 y.2.length), (37, .list (f.map encIns)), (38, .int .i64 (f.length : Int)), (39, .int .i64 (y.1 : Int))], fun y => H ++ [.vec 1 [[.int .i64 a]], .vec 1 [[.int .i64 b]], .vec 6 (y.2.map encIns)],
    fun y => y.1 ≤ f.length ∧ y.2.length = f.length ∧ y.2 = (f.take y.1).map (renI a b) ++ f.drop y.1, fun y => f.length - y.1⟩ (0, f) ⟨Nat.zero_le _, rfl, by simp⟩ (Weak.at hcl ?_) ?_)
  · simp only [seval, evw, List.forall_mem_cons, List.forall_mem_map, List.forall_mem_append, List.not_mem_nil, encB_def, encN_def, sb, insA, encIns, ins_dec, ins_eta, encInts_eq, List.length_append, CallA_fn2, List.length_nil, *]
  rintro ⟨i, cur⟩ ⟨hi, hcl2, hq⟩
  simp only at hi hcl2 hq ⊢
  clear b1 b2 b3
  by_cases hlt : i < f.length
  · have hg := getD_encIns hlt
    have hgc : cur.getD i noIns = f.getD i noIns := by
      rw [hq, List.getD_eq_getElem?_getD, List.getElem?_append_right (by simp; omega)]
      simp [List.getD, hlt, Nat.min_eq_left (Nat.le_of_lt hlt)]
    have hgi : (cur.map encIns)[i]? = some (encIns (f.getD i noIns)) := by
      rw [List.getElem?_map, ← hgc, List.getD_eq_getElem?_getD, List.getElem?_eq_getElem (by omega)]
      rfl
    have hset : cur.set i (renI a b (f.getD i noIns)) = (f.take (i + 1)).map (renI a b) ++ f.drop (i + 1) := by
      rw [hq, List.set_append_right _ _ (by simp; omega), take_ins hlt, drop_ins hlt]
      simp [Nat.min_eq_left (Nat.le_of_lt hlt)]
    have hsame : renI a b (f.getD i noIns) = f.getD i noIns → cur.set i (renI a b (f.getD i noIns)) = cur := by
      intro hy
      rw [hy, ← hgc, List.getD_eq_getElem?_getD, List.getElem?_eq_getElem (by omega)]
      simp
    have hset2 : ∀ y : Ins, (cur.map encIns).set i (encIns y) = (cur.set i y).map encIns := fun y => List.map_set.symm
    have hsl : ∀ y : Ins, (cur.set i y).length = f.length := fun y => by rw [List.length_set, hcl2]
    have hn := alloc_names_ok (f.getD i noIns)
    clear hgc hq
    generalize f.getD i noIns = x at *
    rw [insA_eq] at hn
    have g1 : (i : Int) < (f.length : Int) := by omega
    have g3 : IntKind.i64.wrap ((i : Int) + 1) = ((i + 1 : Nat) : Int) := by rw [IntKind.wrap_i64]; omega
    have hgl : (cur.map encIns).length = f.length := by rw [List.length_map, hcl2]
    by_cases h1 : x.op = 1
    · have e : namesL x = [x.d] := by unfold namesL; rw [if_pos h1]
      have hx : renI a b x = { x with d := oth a b x.d } := by unfold renI; rw [if_pos h1]
      rw [e] at hn
      rw [hx] at hset
      obtain ⟨op, xd, xa, xb, xn, xt⟩ := x
      simp only at h1 hset hgi hn
      subst h1
      have hs2 : (cur.map encIns).set i [.int .i64 1, .int .i64 (oth a b xd), .int .i64 xa, .int .i64 xb, .int .i64 xn, .int .i64 xt] = (cur.set i ⟨1, oth a b xd, xa, xb, xn, xt⟩).map encIns := hset2 ⟨1, oth a b xd, xa, xb, xn, xt⟩
      have hsl2 := hsl ⟨1, oth a b xd, xa, xb, xn, xt⟩
      clear hset2 hsl hsame hx e
      replace hset := Hold.mk hset
      replace hsl2 := Hold.mk hsl2
      replace hn := Hold.mk hn
      repeat' (first | simp only [seval, evx, beq_self_eq_true, encB_def, encN_def, sb, insA, encIns, ins_dec, ins_eta, encInts_eq, List.length_append, CallA_fn2, List.length_nil, *] | simp (disch := omega) only [if_pos, if_neg] | refine R.seq ?_ | refine LCB.text ?_ | refine LCB.quiet rfl ?_ | refine R.anyX ?_ | refine R.block ?_ | refine LCB.skip ?_ | refine LCB.exit ?_ | refine LCB.ret ?_ | ((first | refine RetOk.val hcl ?_ | refine Weak.at hcl ?_); simp only [seval, evw, List.forall_mem_cons, List.forall_mem_map, List.forall_mem_append, List.not_mem_nil, encB_def, encN_def, sb, insA, encIns, ins_dec, ins_eta, encInts_eq, List.length_append, CallA_fn2, List.length_nil, *]) | ((first | refine LCB.cond (by simp only [seval, evx] <;> rfl) ?_ ?_ | refine wpG_split (by simp only [seval, evx] <;> rfl) ?_ ?_ | refine wxG_split (by simp only [seval, evx] <;> rfl) ?_ ?_) <;> (intro hc; try simp only [seval, nf] at hc)) | refine ACalls.inst ?_ | refine CallX.inst ?_ | (with_reducible refine And.intro ?_ ?_) | exact True.intro | refine CallX.pure h1.of ?_ | refine ACalls.pure h1.of ?_ | refine ACalls.pure hn.of ?_ | (refine (alloc_other_ok a b _ H.length (H.length + 1) (by simp only [seval, evo, beq_self_eq_true, encB_def, encN_def, sb, insA, encIns, ins_dec, ins_eta, encInts_eq, List.length_append, CallA_fn2, List.length_nil, *]) (by simp only [seval, evo, beq_self_eq_true, encB_def, encN_def, sb, insA, encIns, ins_dec, ins_eta, encInts_eq, List.length_append, CallA_fn2, List.length_nil, *])).mono ?_; rintro r' H' ⟨rfl, rfl⟩))
      refine ⟨(i + 1, cur.set i ⟨1, oth a b xd, xa, xb, xn, xt⟩), ⟨hlt, hsl2.of, hset.of⟩, by simp only; omega, Weak.at hcl ?_⟩
      have hsl3 := hsl2.of
      simp only [seval, evw, List.forall_mem_cons, List.forall_mem_map, List.forall_mem_append, List.not_mem_nil, encB_def, encN_def, sb, insA, encIns, ins_dec, ins_eta, encInts_eq, List.length_append, CallA_fn2, List.length_nil, *]
    by_cases h2 : x.op = 2 ∨ x.op = 3
    · have e : namesL x = [x.d, x.a] := by unfold namesL; rw [if_neg h1, if_pos h2]
      have hx : renI a b x = { x with d := oth a b x.d, a := oth a b x.a } := by unfold renI; rw [if_neg h1, if_pos h2]
      rw [e] at hn
      rw [hx] at hset
      obtain ⟨op, xd, xa, xb, xn, xt⟩ := x
      simp only at h1 h2 hset hgi hn
      clear h1 h2
      have hs2 : (cur.map encIns).set i [.int .i64 op, .int .i64 (oth a b xd), .int .i64 (oth a b xa), .int .i64 xb, .int .i64 xn, .int .i64 xt] = (cur.set i ⟨op, oth a b xd, oth a b xa, xb, xn, xt⟩).map encIns := hset2 ⟨op, oth a b xd, oth a b xa, xb, xn, xt⟩
      have hs1 : (cur.map encIns).set i [.int .i64 op, .int .i64 (oth a b xd), .int .i64 xa, .int .i64 xb, .int .i64 xn, .int .i64 xt] = (cur.set i ⟨op, oth a b xd, xa, xb, xn, xt⟩).map encIns := hset2 ⟨op, oth a b xd, xa, xb, xn, xt⟩
      have hgs : ((cur.set i ⟨op, oth a b xd, xa, xb, xn, xt⟩).map encIns)[i]? = some (encIns ⟨op, oth a b xd, xa, xb, xn, xt⟩) := by
        rw [List.getElem?_map, List.getElem?_set, if_pos rfl, if_pos (by omega)]; rfl
      have hss : ((cur.set i ⟨op, oth a b xd, xa, xb, xn, xt⟩).map encIns).set i [.int .i64 op, .int .i64 (oth a b xd), .int .i64 (oth a b xa), .int .i64 xb, .int .i64 xn, .int .i64 xt] = (cur.set i ⟨op, oth a b xd, oth a b xa, xb, xn, xt⟩).map encIns := by
        rw [← hs1, ← hs2, List.set_set]
      have hgl2 : ((cur.set i ⟨op, oth a b xd, xa, xb, xn, xt⟩).map encIns).length = f.length := by rw [List.length_map, List.length_set, hcl2]
      have hsl2 := hsl ⟨op, oth a b xd, oth a b xa, xb, xn, xt⟩
      have hsl1 := hsl ⟨op, oth a b xd, xa, xb, xn, xt⟩
      clear hset2 hsl hsame hx e
      replace hset := Hold.mk hset
      replace hsl2 := Hold.mk hsl2
      replace hn := Hold.mk hn
      repeat' (first | simp only [seval, evx, beq_self_eq_true, encB_def, encN_def, sb, insA, encIns, ins_dec, ins_eta, encInts_eq, List.length_append, CallA_fn2, List.length_nil, *] | simp (disch := omega) only [if_pos, if_neg] | refine R.seq ?_ | refine LCB.text ?_ | refine LCB.quiet rfl ?_ | refine R.block ?_ | refine LCB.skip ?_ | refine LCB.exit ?_ | refine LCB.ret ?_ | ((first | refine RetOk.val hcl ?_ | refine Weak.at hcl ?_); simp only [seval, evw, List.forall_mem_cons, List.forall_mem_map, List.forall_mem_append, List.not_mem_nil, encB_def, encN_def, sb, insA, encIns, ins_dec, ins_eta, encInts_eq, List.length_append, CallA_fn2, List.length_nil, *]) | ((first | refine LCB.cond (by simp only [seval, evx] <;> rfl) ?_ ?_ | refine wpG_split (by simp only [seval, evx] <;> rfl) ?_ ?_ | refine wxG_split (by simp only [seval, evx] <;> rfl) ?_ ?_) <;> (intro hc; try simp only [seval, nf] at hc)) | refine ACalls.inst ?_ | refine CallX.inst ?_ | (with_reducible refine And.intro ?_ ?_) | exact True.intro | refine CallX.pure h1.of ?_ | refine ACalls.pure h1.of ?_ | refine ACalls.pure hn.of ?_ | (refine (alloc_other_ok a b _ H.length (H.length + 1) (by simp only [seval, evo, beq_self_eq_true, encB_def, encN_def, sb, insA, encIns, ins_dec, ins_eta, encInts_eq, List.length_append, CallA_fn2, List.length_nil, *]) (by simp only [seval, evo, beq_self_eq_true, encB_def, encN_def, sb, insA, encIns, ins_dec, ins_eta, encInts_eq, List.length_append, CallA_fn2, List.length_nil, *])).mono ?_; rintro r' H' ⟨rfl, rfl⟩))
      refine LCB.any ?_
      repeat' (first | simp only [wpP, wpPs, pureStep, seval, evo, evp, encB_def, encN_def, sb, insA, encIns, ins_dec, ins_eta, encInts_eq, List.length_append, CallA_fn2, List.length_nil, *] | (refine (alloc_other_ok a b _ H.length (H.length + 1) (by simp only [seval, evo, beq_self_eq_true, encB_def, encN_def, sb, insA, encIns, ins_dec, ins_eta, encInts_eq, List.length_append, CallA_fn2, List.length_nil, *]) (by simp only [seval, evo, beq_self_eq_true, encB_def, encN_def, sb, insA, encIns, ins_dec, ins_eta, encInts_eq, List.length_append, CallA_fn2, List.length_nil, *])).mono ?_; rintro r' H' ⟨rfl, rfl⟩) | constructor)
      all_goals
        repeat' (first | simp only [seval, evx, beq_self_eq_true, encB_def, encN_def, sb, insA, encIns, ins_dec, ins_eta, encInts_eq, List.length_append, CallA_fn2, List.length_nil, *] | simp (disch := omega) only [if_pos, if_neg] | refine R.seq ?_ | refine LCB.text ?_ | refine LCB.quiet rfl ?_ | refine R.block ?_ | refine LCB.skip ?_ | refine LCB.exit ?_ | refine LCB.ret ?_ | ((first | refine RetOk.val hcl ?_ | refine Weak.at hcl ?_); simp only [seval, evw, List.forall_mem_cons, List.forall_mem_map, List.forall_mem_append, List.not_mem_nil, encB_def, encN_def, sb, insA, encIns, ins_dec, ins_eta, encInts_eq, List.length_append, CallA_fn2, List.length_nil, *]) | ((first | refine LCB.cond (by simp only [seval, evx] <;> rfl) ?_ ?_ | refine wpG_split (by simp only [seval, evx] <;> rfl) ?_ ?_ | refine wxG_split (by simp only [seval, evx] <;> rfl) ?_ ?_) <;> (intro hc; try simp only [seval, nf] at hc)) | refine ACalls.inst ?_ | refine CallX.inst ?_ | (with_reducible refine And.intro ?_ ?_) | exact True.intro | refine CallX.pure h1.of ?_ | refine ACalls.pure h1.of ?_ | refine ACalls.pure hn.of ?_ | (refine (alloc_other_ok a b _ H.length (H.length + 1) (by simp only [seval, evo, beq_self_eq_true, encB_def, encN_def, sb, insA, encIns, ins_dec, ins_eta, encInts_eq, List.length_append, CallA_fn2, List.length_nil, *]) (by simp only [seval, evo, beq_self_eq_true, encB_def, encN_def, sb, insA, encIns, ins_dec, ins_eta, encInts_eq, List.length_append, CallA_fn2, List.length_nil, *])).mono ?_; rintro r' H' ⟨rfl, rfl⟩))
        refine ⟨(i + 1, cur.set i ⟨op, oth a b xd, oth a b xa, xb, xn, xt⟩), ⟨hlt, hsl2.of, hset.of⟩, by simp only; omega, Weak.at hcl ?_⟩
        have hsl3 := hsl2.of
        simp only [seval, evw, List.forall_mem_cons, List.forall_mem_map, List.forall_mem_append, List.not_mem_nil, encB_def, encN_def, sb, insA, encIns, ins_dec, ins_eta, encInts_eq, List.length_append, CallA_fn2, List.length_nil, *]
    · have e : namesL x = [] := by unfold namesL; rw [if_neg h1, if_neg h2]
      have hx : renI a b x = x := by unfold renI; rw [if_neg h1, if_neg h2]
      rw [hsame hx] at hset
      rw [e] at hn
      clear hset2 hsl hsame h1 h2 hx e
      replace hset := Hold.mk hset
      replace hn := Hold.mk hn
      repeat' (first | simp only [seval, evx, beq_self_eq_true, encB_def, encN_def, sb, insA, encIns, ins_dec, ins_eta, encInts_eq, List.length_append, CallA_fn2, List.length_nil, *] | simp (disch := omega) only [if_pos, if_neg] | refine R.seq ?_ | refine LCB.text ?_ | refine LCB.quiet rfl ?_ | refine R.anyX ?_ | refine R.block ?_ | refine LCB.skip ?_ | refine LCB.exit ?_ | refine LCB.ret ?_ | ((first | refine RetOk.val hcl ?_ | refine Weak.at hcl ?_); simp only [seval, evw, List.forall_mem_cons, List.forall_mem_map, List.forall_mem_append, List.not_mem_nil, encB_def, encN_def, sb, insA, encIns, ins_dec, ins_eta, encInts_eq, List.length_append, CallA_fn2, List.length_nil, *]) | ((first | refine LCB.cond (by simp only [seval, evx] <;> rfl) ?_ ?_ | refine wpG_split (by simp only [seval, evx] <;> rfl) ?_ ?_ | refine wxG_split (by simp only [seval, evx] <;> rfl) ?_ ?_) <;> (intro hc; try simp only [seval, nf] at hc)) | refine ACalls.inst ?_ | refine CallX.inst ?_ | (with_reducible refine And.intro ?_ ?_) | exact True.intro | refine CallX.pure h1.of ?_ | refine ACalls.pure h1.of ?_ | refine ACalls.pure hn.of ?_ | (refine (alloc_other_ok a b _ H.length (H.length + 1) (by simp only [seval, evo, beq_self_eq_true, encB_def, encN_def, sb, insA, encIns, ins_dec, ins_eta, encInts_eq, List.length_append, CallA_fn2, List.length_nil, *]) (by simp only [seval, evo, beq_self_eq_true, encB_def, encN_def, sb, insA, encIns, ins_dec, ins_eta, encInts_eq, List.length_append, CallA_fn2, List.length_nil, *])).mono ?_; rintro r' H' ⟨rfl, rfl⟩))
      refine ⟨(i + 1, cur), ⟨hlt, hcl2, hset.of⟩, by simp only; omega, Weak.at hcl ?_⟩
      simp only [seval, evw, List.forall_mem_cons, List.forall_mem_map, List.forall_mem_append, List.not_mem_nil, encB_def, encN_def, sb, insA, encIns, ins_dec, ins_eta, encInts_eq, List.length_append, CallA_fn2, List.length_nil, *]
  · have hie : i = f.length := by omega
    subst hie
    rw [List.take_length, List.drop_length, List.append_nil] at hq
    have hgl : (cur.map encIns).length = f.length := by rw [List.length_map, hcl2]
    have g1 : ¬ (f.length : Int) < (f.length : Int) := by omega
    rw [← hq]
    have tk : (cur.map encIns).take f.length = cur.map encIns := List.take_of_length_le (by omega)
    replace hq := Hold.mk hq
    repeat' (first | simp only [seval, evx, beq_self_eq_true, encB_def, encN_def, sb, insA, encIns, ins_dec, ins_eta, encInts_eq, List.length_append, CallA_fn2, List.length_nil, *] | simp (disch := omega) only [if_pos, if_neg] | refine R.seq ?_ | refine LCB.text ?_ | refine LCB.quiet rfl ?_ | refine R.anyX ?_ | refine R.block ?_ | refine LCB.skip ?_ | refine LCB.exit ?_ | refine LCB.ret ?_ | ((first | refine RetOk.val hcl ?_ | refine Weak.at hcl ?_); simp only [seval, evw, List.forall_mem_cons, List.forall_mem_map, List.forall_mem_append, List.not_mem_nil, encB_def, encN_def, sb, insA, encIns, ins_dec, ins_eta, encInts_eq, List.length_append, CallA_fn2, List.length_nil, *]) | ((first | refine LCB.cond (by simp only [seval, evx] <;> rfl) ?_ ?_ | refine wpG_split (by simp only [seval, evx] <;> rfl) ?_ ?_ | refine wxG_split (by simp only [seval, evx] <;> rfl) ?_ ?_) <;> (intro hc; try simp only [seval, nf] at hc)) | refine ACalls.inst ?_ | refine CallX.inst ?_ | (with_reducible refine And.intro ?_ ?_) | exact True.intro | refine CallX.pure h1.of ?_ | refine ACalls.pure h1.of ?_ | refine ACalls.pure hn.of ?_ | (refine (alloc_other_ok a b _ H.length (H.length + 1) (by simp only [seval, evo, beq_self_eq_true, encB_def, encN_def, sb, insA, encIns, ins_dec, ins_eta, encInts_eq, List.length_append, CallA_fn2, List.length_nil, *]) (by simp only [seval, evo, beq_self_eq_true, encB_def, encN_def, sb, insA, encIns, ins_dec, ins_eta, encInts_eq, List.length_append, CallA_fn2, List.length_nil, *])).mono ?_; rintro r' H' ⟨rfl, rfl⟩))
end Go.Proofs.YtgdopmhgmpkahaaDoor

/-
  alloc: the examples.
-/
namespace Go.Proofs.YtgdopmhgmpkahaaDoor
open Go.RowKit
set_option linter.unusedVariables false
set_option linter.unusedSimpArgs false

def hx1 : List UInt8 := [114, 101, 116, 32, 114, 48, 10]
def hf1 : List Ins := [⟨18, 0, 0, 0, 0, 0⟩]
def hg1 : List Ins := [⟨2, 8, 0, 0, 0, 0⟩, ⟨2, 9, 1, 0, 0, 0⟩, ⟨2, 10, 2, 0, 0, 0⟩, ⟨2, 11, 3, 0, 0, 0⟩, ⟨2, 12, 4, 0, 0, 0⟩, ⟨2, 13, 5, 0, 0, 0⟩, ⟨2, 14, 6, 0, 0, 0⟩, ⟨2, 15, 7, 0, 0, 0⟩, ⟨2, 0, 8, 0, 0, 0⟩, ⟨18, 0, 0, 0, 0, 0⟩]
def hx2 : List UInt8 := [109, 111, 118, 32, 115, 48, 32, 114, 48, 10, 109, 111, 118, 32, 115, 49, 32, 114, 49, 10, 109, 111, 118, 32, 115, 50, 32, 114, 50, 10, 109, 111, 118, 32, 115, 51, 32, 114, 51, 10, 109, 111, 118, 32, 115, 52, 32, 114, 52, 10, 109, 111, 118, 32, 115, 53, 32, 114, 53, 10, 109, 111, 118, 32, 115, 54, 32, 114, 54, 10, 109, 111, 118, 32, 115, 55, 32, 114, 55, 10, 109, 111, 118, 32, 114, 48, 32, 115, 48, 10, 114, 101, 116, 32, 114, 48, 10]
theorem hx1_ok : fnParse hx1 = (hf1, 0, 0) := by decide +kernel
theorem hf1_spill : spillF hf1 = (hg1, 0) := by decide +kernel
theorem hg1_ok : fnOk hg1 = true := by decide +kernel
theorem hg1_text : fnText hg1 = hx2 := by decide +kernel
theorem hf1_split : splitF hf1 0 = ([⟨16, 0, 0, 0, 0, 1⟩, ⟨18, 0, 0, 0, 0, 0⟩], 0) := by decide +kernel

set_option maxRecDepth 20000 in
set_option maxHeartbeats 4000000 in
theorem alloc_knows_ok : Pure Tryd.prog 8 [] (.bool true) := by
  intro H
  refine ACalls.go joinerylaw23_knows.low (by simp) fun hcl => ?_
  have h1 := asm_Parse_ok hx1 (by decide)
  rw [hx1_ok] at h1
  have h2 := alloc_Spill_ok hf1
  rw [hf1_spill] at h2
  have h3 := asm_Print_ok hg1 (by
    intro x hx
    simp only [hg1, List.mem_cons, List.not_mem_nil, or_false] at hx
    rcases hx with rfl | rfl | rfl | rfl | rfl | rfl | rfl | rfl | rfl | rfl <;> (constructor <;> (unfold in64; simp)))
  unfold fnP at h3
  rw [hg1_ok, if_pos rfl, hg1_text] at h3
  have h4 := alloc_Split_ok hf1 0
  rw [hf1_split] at h4
  rw [resP_eq] at h2 h4
  unfold fnR encFn at *
  simp only [List.map_cons, List.map_nil, encIns] at h1 h2 h3 h4
  generalize List.map encIns hf1 = F at *
  generalize List.map encIns hg1 = G at *
  unfold hx1 at *
  unfold hx2 at *
  replace h1 := Hold.mk h1
  replace h2 := Hold.mk h2
  replace h3 := Hold.mk h3
  replace h4 := Hold.mk h4
  repeat' (first | simp only [seval, evx, beq_self_eq_true, encB_def, encN_def, sb, insA, ins_dec, ins_eta, encFn, fnR, List.map_nil, List.length_nil, List.getD_cons_zero, *] | simp (disch := omega) only [if_pos, if_neg] | refine R.seq ?_ | refine LCB.text ?_ | refine LCB.quiet rfl ?_ | refine R.anyX ?_ | refine R.block ?_ | refine LCB.skip ?_ | refine LCB.exit ?_ | refine LCB.ret ?_ | ((first | refine RetOk.val hcl ?_ | refine Weak.at hcl ?_); simp only [seval, evw, List.forall_mem_cons, List.forall_mem_map, List.forall_mem_append, List.not_mem_nil, encB_def, encN_def, sb, insA, ins_dec, ins_eta, encFn, fnR, List.map_nil, List.length_nil, List.getD_cons_zero, *]) | ((first | refine LCB.cond (by simp only [seval, evx] <;> rfl) ?_ ?_ | refine wpG_split (by simp only [seval, evx] <;> rfl) ?_ ?_ | refine wxG_split (by simp only [seval, evx] <;> rfl) ?_ ?_) <;> (intro hc; try simp only [seval, nf] at hc)) | refine ACalls.inst ?_ | refine CallX.inst ?_ | (with_reducible refine And.intro ?_ ?_) | exact True.intro | refine CallX.pure h1.of ?_ | refine ACalls.pure h1.of ?_ | refine ACalls.pure h2.of ?_ | refine ACalls.pure h3.of ?_ | refine ACalls.pure h4.of ?_)
instance pc_alloc_knows : PureC Tryd.prog 8 [] (.bool true) := ⟨alloc_knows_ok⟩
end Go.Proofs.YtgdopmhgmpkahaaDoor

