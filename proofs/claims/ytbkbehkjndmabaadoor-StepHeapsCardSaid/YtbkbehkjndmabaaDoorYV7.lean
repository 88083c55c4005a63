/-
  StepHeaps, of every function, state and answers: no step changes how many words the heap has; and only a Store changes one, at most one.
-/
import Derived.Test.YtbkbehkjndmabaaDoorZ10
namespace Go.Proofs.YtbkbehkjndmabaaDoor
open Go.ChangeShapes Go.WideShapes Go.ChangeAt Go.RowKit
set_option linter.unusedVariables false
set_option linter.unusedSimpArgs false
def ndiff : List Int → List Int → Nat
  | x :: a, y :: b => (if x = y then 0 else 1) + ndiff a b
  | _, _ => 0
theorem ndiff_self : ∀ a : List Int, ndiff a a = 0
  | [] => rfl
  | x :: a => by rw [ndiff, if_pos rfl, ndiff_self a]
theorem ndiff_set : ∀ (a : List Int) (i : Nat) (v : Int), ndiff (a.set i v) a ≤ 1
  | [], i, v => by simp [ndiff]
  | x :: a, 0, v => by
    rw [List.set_cons_zero, ndiff, ndiff_self]
    split <;> omega
  | x :: a, i + 1, v => by
    have := ndiff_set a i v
    rw [List.set_cons_succ, ndiff, if_pos rfl]
    omega
theorem ndiff_nil (a b : List Int) (h : a = []) : ndiff a b = 0 := by subst h; rfl
theorem stepF_hset (f : List Ins) (s : St) (ask : List Int) : ndiff (stepF f s ask).1.heap s.heap = 0 ∨ (ndiff (stepF f s ask).1.heap s.heap = 1 ∧ (f.getD s.pc.toNat noIns).op = 14) := by
  have key : (stepF f s ask).1.heap = s.heap ∨ ((f.getD s.pc.toNat noIns).op = 14 ∧ ∃ i v, (stepF f s ask).1.heap = s.heap.set i v) := by
    unfold stepF
    split
    · generalize f.getD s.pc.toNat noIns = x
      simp only
      by_cases o14 : x.op = 14
      · unfold stepW
        simp only
        rw [if_neg (by omega), if_pos o14]
        split
        · rename_i h
          right
          refine ⟨o14, (s.L.getD x.a.toNat noW).v.toNat, (s.L.getD x.b.toNat noW).v, ?_⟩
          revert h
          unfold hStore
          split <;> simp
        · exact .inl rfl
      · left
        unfold stepW
        simp only
        (repeat' split) <;> first | rfl | simp [setS_heap, moveS_heap, callS] | (rename_i h _; exact absurd h o14)
    · exact .inl rfl
  rcases key with h | ⟨h1, i, v, h⟩
  · rw [h, ndiff_self]; exact .inl rfl
  · rw [h]
    have := ndiff_set s.heap i v
    rcases Nat.eq_zero_or_pos (ndiff (s.heap.set i v) s.heap) with h0 | h0
    · exact .inl h0
    · exact .inr ⟨by omega, h1⟩
theorem drop_I {l : List Int} {j : Nat} (h : j < l.length) : l.drop j = l.getD j 0 :: l.drop (j + 1) := by
  rw [List.drop_eq_getElem_cons h]
  simp [List.getD, h]
set_option maxHeartbeats 8000000 in
theorem StepHeaps_ok (f : List Ins) (s : St) (ask : List Int) (hL : s.L.length = 24) (hask : ask.length ≤ maxLen) : Pure Tryd.prog 8 [encFn f, stA s, ints ask] (.bool true) := by
  intro H
  refine ACalls.go joinerylaw07_StepHeaps.low (by simp) fun hcl => ?_
  have hwl : (wc s.L).length = 48 := by rw [wc_len, hL]
  have hgr := law07_great_ok f s ask hL
  have hAs := law07_As_ok s hL
  have hRR := ref07_Right_ok f s hL
  have hdo := step_Do_ok f s ask hL (by rw [maxLen_def] at hask; omega)
  unfold stepA at hdo
  by_cases hg : greatB f s ask = true
  · rw [hg] at hgr
    rw [stA_eq] at *
    unfold encFn ints at *
    replace hgr := Hold.mk hgr
    clear hAs hdo hRR
    repeat' (first | simp only [seval, evx, beq_self_eq_true, sb, ew, insA, ins_dec, ins_eta, evs_eq, encEv_def, List.map_nil, List.length_nil, beq_self_eq_true, *] | simp (disch := omega) only [if_pos, if_neg] | refine R.seq ?_ | refine LCB.text ?_ | refine LCB.quiet rfl ?_ | refine R.anyX ?_ | refine R.block ?_ | refine LCB.skip ?_ | refine LCB.exit ?_ | refine LCB.ret ?_ | ((first | refine RetOk.val hcl ?_ | refine Weak.at hcl ?_); simp only [seval, evw, List.forall_mem_cons, List.forall_mem_map, List.forall_mem_append, List.not_mem_nil, sb, ew, insA, ins_dec, ins_eta, evs_eq, encEv_def, List.map_nil, List.length_nil, beq_self_eq_true, *]) | ((first | refine LCB.cond (by simp only [seval, evx] <;> rfl) ?_ ?_ | refine wpG_split (by simp only [seval, evx] <;> rfl) ?_ ?_ | refine wxG_split (by simp only [seval, evx] <;> rfl) ?_ ?_) <;> (intro hc; try simp only [seval, nf] at hc)) | refine ACalls.inst ?_ | refine CallX.inst ?_ | (with_reducible refine And.intro ?_ ?_) | exact True.intro)
    first | refine ACalls.pure (hgr.of) ?_ | refine CallP.pure (hgr.of) rfl ?_ | refine CallX.pure (hgr.of) ?_
    repeat' (first | simp only [seval, evx, beq_self_eq_true, sb, ew, insA, ins_dec, ins_eta, evs_eq, encEv_def, List.map_nil, List.length_nil, beq_self_eq_true, *] | simp (disch := omega) only [if_pos, if_neg] | refine R.seq ?_ | refine LCB.text ?_ | refine LCB.quiet rfl ?_ | refine R.anyX ?_ | refine R.block ?_ | refine LCB.skip ?_ | refine LCB.exit ?_ | refine LCB.ret ?_ | ((first | refine RetOk.val hcl ?_ | refine Weak.at hcl ?_); simp only [seval, evw, List.forall_mem_cons, List.forall_mem_map, List.forall_mem_append, List.not_mem_nil, sb, ew, insA, ins_dec, ins_eta, evs_eq, encEv_def, List.map_nil, List.length_nil, beq_self_eq_true, *]) | ((first | refine LCB.cond (by simp only [seval, evx] <;> rfl) ?_ ?_ | refine wpG_split (by simp only [seval, evx] <;> rfl) ?_ ?_ | refine wxG_split (by simp only [seval, evx] <;> rfl) ?_ ?_) <;> (intro hc; try simp only [seval, nf] at hc)) | refine ACalls.inst ?_ | refine CallX.inst ?_ | (with_reducible refine And.intro ?_ ?_) | exact True.intro)
  obtain ⟨q1, q2, q3⟩ := great_not hg
  have hg2 : greatB f s ask = false := by simpa using hg
  rw [hg2] at hgr
  clear hg hg2
  by_cases hr : stRight f s = true
  case neg =>
    have hr2 : stRight f s = false := by simpa using hr
    rw [hr2] at hRR
    simp only [stA_eq, rsA_eq] at *
    unfold encFn ints at *
    replace hgr := Hold.mk hgr
    replace hRR := Hold.mk hRR
    replace hAs := Hold.mk hAs
    replace hdo := Hold.mk hdo
    clear hr hr2 q1 q2 q3 hL hask
    repeat' (first | simp only [seval, evx, beq_self_eq_true, sb, ew, insA, ins_dec, ins_eta, evs_eq, encEv_def, List.map_nil, List.length_nil, beq_self_eq_true, *] | simp (disch := omega) only [if_pos, if_neg] | refine R.seq ?_ | refine LCB.text ?_ | refine LCB.quiet rfl ?_ | refine R.anyX ?_ | refine R.block ?_ | refine LCB.skip ?_ | refine LCB.exit ?_ | refine LCB.ret ?_ | ((first | refine RetOk.val hcl ?_ | refine Weak.at hcl ?_); simp only [seval, evw, List.forall_mem_cons, List.forall_mem_map, List.forall_mem_append, List.not_mem_nil, sb, ew, insA, ins_dec, ins_eta, evs_eq, encEv_def, List.map_nil, List.length_nil, beq_self_eq_true, *]) | ((first | refine LCB.cond (by simp only [seval, evx] <;> rfl) ?_ ?_ | refine wpG_split (by simp only [seval, evx] <;> rfl) ?_ ?_ | refine wxG_split (by simp only [seval, evx] <;> rfl) ?_ ?_) <;> (intro hc; try simp only [seval, nf] at hc)) | refine ACalls.inst ?_ | refine CallX.inst ?_ | (with_reducible refine And.intro ?_ ?_) | exact True.intro | refine ACalls.pure hgr.of ?_ | refine CallX.pure hgr.of ?_ | refine ACalls.pure hdo.of ?_ | refine CallX.pure hdo.of ?_ | refine ACalls.pure hAs.of ?_ | refine CallX.pure hAs.of ?_ | refine ACalls.pure hRR.of ?_ | refine CallX.pure hRR.of ?_)
  rw [if_pos hr] at hdo
  rw [hr] at hRR
  obtain ⟨r1, r2, r3, _⟩ := stRight_iff.1 hr
  have p1 := stepF_hset f s ask
  have hl1 := stepF_len f s ask
  have hl2 := stepF_heap f s ask
  generalize stepF f s ask = r at *
  obtain ⟨s', ev, o⟩ := r
  simp only at hdo p1 hl1 hl2
  have hwl' : (wc s'.L).length = 48 := by rw [wc_len, hl1, hL]
  obtain ⟨L, heap, pc, asked⟩ := s
  simp only at r2 r3 hl2 p1
  obtain ⟨n, rfl⟩ := Int.eq_ofNat_of_zero_le r2
  have hn : n < f.length := by omega
  have hg := getD_encIns hn
  have e1 : (n : Int) < (f.length : Int) := by omega
  simp only [Int.toNat_natCast] at p1
  generalize f.getD n noIns = x at *
  have he : encIns x = [.int .i64 x.op, .int .i64 x.d, .int .i64 x.a, .int .i64 x.b, .int .i64 x.n, .int .i64 x.to] := rfl
  rw [he] at hg
  replace he := Hold.mk he
  obtain ⟨L', heap', pc', asked'⟩ := s'
  simp only at hl2 p1 hwl'
  simp only [stA_eq, rsA_eq, outA_eq, evs_eq] at *
  unfold encFn ints at *
  replace hgr := Hold.mk hgr
  replace hRR := Hold.mk hRR
  replace hAs := Hold.mk hAs
  replace hdo := Hold.mk hdo
  replace p1 := Hold.mk p1
  have hl2i : (heap'.length : Int) = (heap.length : Int) := by omega
  replace hl2 := Hold.mk hl2
  clear hl1 hr hL hask r1 r2 r3 q1 q3
  repeat' (first | simp only [seval, evx, beq_self_eq_true, sb, ew, insA, ins_dec, ins_eta, evs_eq, encEv_def, List.map_nil, List.length_nil, beq_self_eq_true, *] | simp (disch := omega) only [if_pos, if_neg] | refine R.seq ?_ | refine LCB.text ?_ | refine LCB.quiet rfl ?_ | refine R.anyX ?_ | refine R.block ?_ | refine LCB.skip ?_ | refine LCB.exit ?_ | refine LCB.ret ?_ | ((first | refine RetOk.val hcl ?_ | refine Weak.at hcl ?_); simp only [seval, evw, List.forall_mem_cons, List.forall_mem_map, List.forall_mem_append, List.not_mem_nil, sb, ew, insA, ins_dec, ins_eta, evs_eq, encEv_def, List.map_nil, List.length_nil, beq_self_eq_true, *]) | ((first | refine LCB.cond (by simp only [seval, evx] <;> rfl) ?_ ?_ | refine wpG_split (by simp only [seval, evx] <;> rfl) ?_ ?_ | refine wxG_split (by simp only [seval, evx] <;> rfl) ?_ ?_) <;> (intro hc; try simp only [seval, nf] at hc)) | refine ACalls.inst ?_ | refine CallX.inst ?_ | (with_reducible refine And.intro ?_ ?_) | exact True.intro | refine ACalls.pure hgr.of ?_ | refine CallX.pure hgr.of ?_ | refine ACalls.pure hdo.of ?_ | refine CallX.pure hdo.of ?_ | refine ACalls.pure hAs.of ?_ | refine CallX.pure hAs.of ?_ | refine ACalls.pure hRR.of ?_ | refine CallX.pure hRR.of ?_)
  refine R.loop (S := Nat × Nat) ⟨fun y => [(0, .list (f.map encIns)), (4, .ptr H.length 1 0 0), (7, .ptr (H.length + 1) 1 0 0), (11, .int .i64 (y.2 : Int)), (12, .int .i64 (y.1 : Int))],
    fun y => H ++ [.vec 51 [wc L ++ [.list (heap.map encI), .int .i64 (n : Int), .int .i64 asked]], .vec 51 [wc L' ++ [.list (heap'.map encI), .int .i64 pc', .int .i64 asked']]],
    fun y => y.1 ≤ heap.length ∧ y.2 ≤ y.1 ∧ y.2 + ndiff (heap'.drop y.1) (heap.drop y.1) = ndiff heap' heap, fun y => heap.length - y.1⟩ (0, 0) ⟨Nat.zero_le _, Nat.zero_le _, by simp⟩ (Weak.at hcl ?_) ?_
  · clear hl2i
    simp only [seval, evw, List.forall_mem_cons, List.forall_mem_map, List.forall_mem_append, List.not_mem_nil, sb, ew, insA, ins_dec, ins_eta, evs_eq, encEv_def, List.map_nil, List.length_nil, beq_self_eq_true, *]
  rintro ⟨i, c⟩ ⟨hi, hc0, hq⟩
  simp only at hi hc0 hq ⊢
  have hl3 := hl2.of
  by_cases hlt : i < heap.length
  · have d1 : (i : Int) < (heap.length : Int) := by omega
    have d1' : (i : Int) < (heap'.length : Int) := by omega
    have d2 : IntKind.i64.wrap ((i : Int) + 1) = ((i + 1 : Nat) : Int) := by rw [IntKind.wrap_i64]; omega
    have d3 : IntKind.i64.wrap ((c : Int) + 1) = ((c + 1 : Nat) : Int) := by rw [IntKind.wrap_i64]; omega
    have g1 := getD_encI hlt
    have g2 := getD_encI (l := heap') (j := i) (by omega)
    rw [drop_I hlt, drop_I (l := heap') (by omega), ndiff] at hq
    clear hl2i
    generalize heap.getD i 0 = u at *
    generalize heap'.getD i 0 = v at *
    by_cases huv : v = u
    · rw [if_pos huv] at hq
      subst huv
      replace hq := Hold.mk hq
      replace hl3 := Hold.mk hl3
      repeat' (first | simp only [seval, evx, beq_self_eq_true, sb, ew, insA, ins_dec, ins_eta, evs_eq, encEv_def, List.map_nil, List.length_nil, beq_self_eq_true, *] | simp (disch := omega) only [if_pos, if_neg] | refine R.seq ?_ | refine LCB.text ?_ | refine LCB.quiet rfl ?_ | refine R.anyX ?_ | refine R.block ?_ | refine LCB.skip ?_ | refine LCB.exit ?_ | refine LCB.ret ?_ | ((first | refine RetOk.val hcl ?_ | refine Weak.at hcl ?_); simp only [seval, evw, List.forall_mem_cons, List.forall_mem_map, List.forall_mem_append, List.not_mem_nil, sb, ew, insA, ins_dec, ins_eta, evs_eq, encEv_def, List.map_nil, List.length_nil, beq_self_eq_true, *]) | ((first | refine LCB.cond (by simp only [seval, evx] <;> rfl) ?_ ?_ | refine wpG_split (by simp only [seval, evx] <;> rfl) ?_ ?_ | refine wxG_split (by simp only [seval, evx] <;> rfl) ?_ ?_) <;> (intro hc; try simp only [seval, nf] at hc)) | refine ACalls.inst ?_ | refine CallX.inst ?_ | (with_reducible refine And.intro ?_ ?_) | exact True.intro | refine ACalls.pure hgr.of ?_ | refine CallX.pure hgr.of ?_ | refine ACalls.pure hdo.of ?_ | refine CallX.pure hdo.of ?_ | refine ACalls.pure hAs.of ?_ | refine CallX.pure hAs.of ?_ | refine ACalls.pure hRR.of ?_ | refine CallX.pure hRR.of ?_)
      refine ⟨(i + 1, c), ⟨hlt, by simp only; omega, by simp only; have := hq.of; omega⟩, by simp only; omega, Weak.at hcl ?_⟩
      simp only [seval, evw, List.forall_mem_cons, List.forall_mem_map, List.forall_mem_append, List.not_mem_nil, sb, ew, insA, ins_dec, ins_eta, evs_eq, encEv_def, List.map_nil, List.length_nil, beq_self_eq_true, *]
    · rw [if_neg huv] at hq
      replace hq := Hold.mk hq
      replace hl3 := Hold.mk hl3
      repeat' (first | simp only [seval, evx, beq_self_eq_true, sb, ew, insA, ins_dec, ins_eta, evs_eq, encEv_def, List.map_nil, List.length_nil, beq_self_eq_true, *] | simp (disch := omega) only [if_pos, if_neg] | refine R.seq ?_ | refine LCB.text ?_ | refine LCB.quiet rfl ?_ | refine R.anyX ?_ | refine R.block ?_ | refine LCB.skip ?_ | refine LCB.exit ?_ | refine LCB.ret ?_ | ((first | refine RetOk.val hcl ?_ | refine Weak.at hcl ?_); simp only [seval, evw, List.forall_mem_cons, List.forall_mem_map, List.forall_mem_append, List.not_mem_nil, sb, ew, insA, ins_dec, ins_eta, evs_eq, encEv_def, List.map_nil, List.length_nil, beq_self_eq_true, *]) | ((first | refine LCB.cond (by simp only [seval, evx] <;> rfl) ?_ ?_ | refine wpG_split (by simp only [seval, evx] <;> rfl) ?_ ?_ | refine wxG_split (by simp only [seval, evx] <;> rfl) ?_ ?_) <;> (intro hc; try simp only [seval, nf] at hc)) | refine ACalls.inst ?_ | refine CallX.inst ?_ | (with_reducible refine And.intro ?_ ?_) | exact True.intro | refine ACalls.pure hgr.of ?_ | refine CallX.pure hgr.of ?_ | refine ACalls.pure hdo.of ?_ | refine CallX.pure hdo.of ?_ | refine ACalls.pure hAs.of ?_ | refine CallX.pure hAs.of ?_ | refine ACalls.pure hRR.of ?_ | refine CallX.pure hRR.of ?_)
      refine ⟨(i + 1, c + 1), ⟨hlt, by simp only; omega, by simp only; have := hq.of; omega⟩, by simp only; omega, Weak.at hcl ?_⟩
      simp only [seval, evw, List.forall_mem_cons, List.forall_mem_map, List.forall_mem_append, List.not_mem_nil, sb, ew, insA, ins_dec, ins_eta, evs_eq, encEv_def, List.map_nil, List.length_nil, beq_self_eq_true, *]
  · have hie : i = heap.length := by omega
    subst hie
    have d1 : ¬ (heap.length : Int) < (heap.length : Int) := by omega
    rw [ndiff_nil _ _ (List.drop_of_length_le (by omega))] at hq
    have hc2 : c = 0 ∨ (c = 1 ∧ x.op = 14) := by
      have := p1.of
      omega
    clear hl2i hl3
    replace hq := Hold.mk hq
    rcases hc2 with rfl | ⟨rfl, ho⟩
    · have d4 : (((0 : Nat) : Int)) = 0 := rfl
      repeat' (first | simp only [seval, evx, beq_self_eq_true, sb, ew, insA, ins_dec, ins_eta, evs_eq, encEv_def, List.map_nil, List.length_nil, beq_self_eq_true, *] | simp (disch := omega) only [if_pos, if_neg] | refine R.seq ?_ | refine LCB.text ?_ | refine LCB.quiet rfl ?_ | refine R.anyX ?_ | refine R.block ?_ | refine LCB.skip ?_ | refine LCB.exit ?_ | refine LCB.ret ?_ | ((first | refine RetOk.val hcl ?_ | refine Weak.at hcl ?_); simp only [seval, evw, List.forall_mem_cons, List.forall_mem_map, List.forall_mem_append, List.not_mem_nil, sb, ew, insA, ins_dec, ins_eta, evs_eq, encEv_def, List.map_nil, List.length_nil, beq_self_eq_true, *]) | ((first | refine LCB.cond (by simp only [seval, evx] <;> rfl) ?_ ?_ | refine wpG_split (by simp only [seval, evx] <;> rfl) ?_ ?_ | refine wxG_split (by simp only [seval, evx] <;> rfl) ?_ ?_) <;> (intro hc; try simp only [seval, nf] at hc)) | refine ACalls.inst ?_ | refine CallX.inst ?_ | (with_reducible refine And.intro ?_ ?_) | exact True.intro | refine ACalls.pure hgr.of ?_ | refine CallX.pure hgr.of ?_ | refine ACalls.pure hdo.of ?_ | refine CallX.pure hdo.of ?_ | refine ACalls.pure hAs.of ?_ | refine CallX.pure hAs.of ?_ | refine ACalls.pure hRR.of ?_ | refine CallX.pure hRR.of ?_)
    · have d4 : (((1 : Nat) : Int)) = 1 := rfl
      repeat' (first | simp only [seval, evx, beq_self_eq_true, sb, ew, insA, ins_dec, ins_eta, evs_eq, encEv_def, List.map_nil, List.length_nil, beq_self_eq_true, *] | simp (disch := omega) only [if_pos, if_neg] | refine R.seq ?_ | refine LCB.text ?_ | refine LCB.quiet rfl ?_ | refine R.anyX ?_ | refine R.block ?_ | refine LCB.skip ?_ | refine LCB.exit ?_ | refine LCB.ret ?_ | ((first | refine RetOk.val hcl ?_ | refine Weak.at hcl ?_); simp only [seval, evw, List.forall_mem_cons, List.forall_mem_map, List.forall_mem_append, List.not_mem_nil, sb, ew, insA, ins_dec, ins_eta, evs_eq, encEv_def, List.map_nil, List.length_nil, beq_self_eq_true, *]) | ((first | refine LCB.cond (by simp only [seval, evx] <;> rfl) ?_ ?_ | refine wpG_split (by simp only [seval, evx] <;> rfl) ?_ ?_ | refine wxG_split (by simp only [seval, evx] <;> rfl) ?_ ?_) <;> (intro hc; try simp only [seval, nf] at hc)) | refine ACalls.inst ?_ | refine CallX.inst ?_ | (with_reducible refine And.intro ?_ ?_) | exact True.intro | refine ACalls.pure hgr.of ?_ | refine CallX.pure hgr.of ?_ | refine ACalls.pure hdo.of ?_ | refine CallX.pure hdo.of ?_ | refine ACalls.pure hAs.of ?_ | refine CallX.pure hAs.of ?_ | refine ACalls.pure hRR.of ?_ | refine CallX.pure hRR.of ?_)

theorem stepHeaps_law : ∀ av, FitAs [.one (.list insSh), .agg stSh, .one (.list [.int .i64])] av → ACalls Tryd.prog 8 av [] fun r _ => r = .bool true := by
  rintro _ ⟨a, _, rfl, h1, b, _, rfl, h2, c, _, rfl, h3, rfl⟩
  obtain ⟨f, rfl, hf, _⟩ := h1.inss
  obtain ⟨s, rfl, hs, _⟩ := h2.st
  obtain ⟨l, rfl, _, hl⟩ := h3.ints
  exact (StepHeaps_ok f s l hs hl).law

set_option maxRecDepth 100000 in
theorem stepHeaps_lifted (os : Os) (started : os.Started) (H : Type) (enc : TypeId × Value → H) :
    ReturnsInHanded {} Tryd.checked os 8 .any (fun w args => (Rows.stepHeapsSpec.pre enc Tryd.prog Tryd.f8 [] false w args ∧ laidMetH Tryd.prog laidL w) ∧ sizedMet enc Tryd.prog Tryd.f8 (OpenSpec.ofChange Rows.stepHeapsSpec) false w args)
      (Rows.stepHeapsSpec.post enc Tryd.prog Tryd.f8 false true false false) := by
  refine returnsInHanded_of_change_and (C := Tryd.checked) (X := fun w _ => laidMetH Tryd.prog laidL w) (fun _ _ _ hh h => h.of_heap hh) own_ok started (by kernel_rfl) Tryd.func8
    (ChangeSpec.witness_shaped (enc := enc) (C := Tryd.checked) (os := os) (X := fun w _ => laidMetH Tryd.prog laidL w) false (World.doorLaid Tryd.prog 400 os) #[.slice none 0 0, (.agg #[.bool false, .int .i64 0, .bool false, .int .i64 0, .bool false, .int .i64 0, .bool false, .int .i64 0, .bool false, .int .i64 0, .bool false, .int .i64 0, .bool false, .int .i64 0, .bool false, .int .i64 0, .bool false, .int .i64 0, .bool false, .int .i64 0, .bool false, .int .i64 0, .bool false, .int .i64 0, .bool false, .int .i64 0, .bool false, .int .i64 0, .bool false, .int .i64 0, .bool false, .int .i64 0, .bool false, .int .i64 0, .bool false, .int .i64 0, .bool false, .int .i64 0, .bool false, .int .i64 0, .bool false, .int .i64 0, .bool false, .int .i64 0, .bool false, .int .i64 0, .bool false, .int .i64 0, .slice none 0 0, .int .i64 0, .int .i64 0]), .slice none 0 0] 8 rfl (World.shaped_of_RefB (by kernel_rfl) (by kernel_rfl)) (by kernel_rfl) (by kernel_rfl) (by kernel_rfl) (door_met os _)) ?_
  intro W base args ds gs before hval0 hW _ _ hL _
  exact law_contract (base := base) laid_ok rfl (by kernel_rfl) (by kernel_rfl) (by kernel_rfl)
    (fun ds hl => by
      match ds, hl with
      | [d1, d2, d3], _ => rfl) (glob_of_laid hL) stepHeaps_law hval0 hW

set_option maxRecDepth 100000 in
theorem stepHeaps_row : Rows.StepHeapsSaid :=
  OpenClaim.holds_of_wide 8 Tryd.f8 rfl rfl rfl rfl rfl rfl rfl ⟨rfl, rfl, rfl, rfl, rfl⟩ rfl rfl rfl rfl rfl (by kernel_rfl) Tryd.func8 (by kernel_rfl)
    (of_decide_eq_true (by kernel_rfl)) (by unfold Func.isWrapper; first | (rw [if_pos (by decide +kernel)]; kernel_rfl) | (rw [if_neg (by decide +kernel)]; exact ⟨rfl, rfl⟩))
    (fun os started H enc _ => stepHeaps_lifted os started H enc)

set_option maxRecDepth 100000 in
/-- **StepHeaps.** -/
theorem stepHeaps_holds : Rows.StepHeapsCardSaid :=
  Claim7.holds_tied_plain_at .later [] [.data] true (true, "bfd71dfb10269e8ba6e027be74d69a4e50b0edb49cced56766909c0e9f3902d6") false
    stepHeaps_row (fun _ h => by cases h) (by kernel_rfl) (fun _ h => by cases h) stepHeaps_row_tie rfl ⟨rfl, rfl⟩ (by kernel_rfl) rfl
    (fun f fn hf hfn => by
      obtain rfl : f = 8 := Option.some.inj ((show Tryd.prog.funcNamed "joinery/joinerylaw07.StepHeaps" = some 8 by kernel_rfl).symm.trans hf) |>.symm
      obtain rfl : fn = Tryd.f8 := (Option.some.inj (Tryd.func8.symm.trans hfn)).symm
      exact ⟨by kernel_rfl, fun j t ht => by
        have hall : (Tryd.f8.params.toList.all fun u => !Tryd.prog.wantsStandIn u) = true := by kernel_rfl
        have hm : t ∈ Tryd.f8.params.toList := by
          have := Array.mem_of_getElem? ht
          simpa using this
        exact (show Tryd.prog.wantsStandIn t = false by simpa using List.all_eq_true.1 hall t hm)⟩)
    (by kernel_rfl)
end Go.Proofs.YtbkbehkjndmabaaDoor
