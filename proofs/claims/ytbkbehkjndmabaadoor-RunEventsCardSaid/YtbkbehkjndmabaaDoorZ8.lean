/-
  Texts of this claim, put together.
-/
import Derived.Test.YtbkbehkjndmabaaDoorZ7
/-
  step: the document's step.
-/
namespace Go.Proofs.YtbkbehkjndmabaaDoor
open Go.RowKit
set_option linter.unusedVariables false
set_option linter.unusedSimpArgs false
theorem numDo_how (op a b : Int) : (numDo op a b).2 = 0 ∨ (numDo op a b).2 = 2 ∨ (numDo op a b).2 = 3 := by
  unfold numDo
  (repeat' split) <;> simp
set_option maxHeartbeats 8000000 in
theorem ref07_Do_ok (f : List Ins) (s : St) (ask : List Int) (hL : s.L.length = 24) (hask : (ask.length : Int) ≤ 9223372036854775807) (hR : stRight f s = true) : Pure Tryd.prog 23 [encFn f, rsA s, ints ask] (.tup [rsA (stepF f s ask).1, evs (stepF f s ask).2.1, outA (stepF f s ask).2.2]) := by
  intro H
  refine ACalls.go joineryref07_Do.low (by simp) fun hcl => ?_
  obtain ⟨r1, r2, r3, r4, r5, _⟩ := stRight_iff.1 hR
  obtain ⟨f1, f2, f3, _⟩ := fnOk_iff.1 r1
  obtain ⟨L, heap, pc, asked⟩ := s
  simp only at r2 r3 r4 r5 hL
  obtain ⟨n, rfl⟩ := Int.eq_ofNat_of_zero_le r2
  have hn : n < f.length := by omega
  have hg := getD_encIns hn
  have hmem : f.getD n noIns ∈ f := by simp [List.getD, hn]
  obtain ⟨d, a, b, hd, hd2, ha, ha2, hb, hb2⟩ := places_of (f3 _ hmem)
  have hF : (if (usesR (f.getD n noIns)).all (fun l => (wAt L l).is) then
    ((stepW ⟨L, heap, (n : Int), asked⟩ (f.getD n noIns) ask).1, (stepW ⟨L, heap, (n : Int), asked⟩ (f.getD n noIns) ask).2.1, ⟨(stepW ⟨L, heap, (n : Int), asked⟩ (f.getD n noIns) ask).2.2.1, (stepW ⟨L, heap, (n : Int), asked⟩ (f.getD n noIns) ask).2.2.2, if (stepW ⟨L, heap, (n : Int), asked⟩ (f.getD n noIns) ask).2.2.1 = 1 then heap else []⟩)
    else (⟨L, heap, (n : Int), asked⟩, [], ⟨2, 0, []⟩)) = stepF f ⟨L, heap, (n : Int), asked⟩ ask := rfl
  have huse := ref03_Uses_ok (f.getD n noIns)
  have hum : ∀ l ∈ usesR (f.getD n noIns), ∃ m : Nat, l = (m : Int) ∧ m < 24 := fun l hl => by
    rcases usesR_mem hl with h | h
    · exact ⟨a, by rw [h, ha], ha2⟩
    · exact ⟨b, by rw [h, hb], hb2⟩
  have hul := usesR_len (f.getD n noIns)
  have hu0 : (¬ (4 ≤ (f.getD n noIns).op ∧ (f.getD n noIns).op ≤ 12) ∧ ¬ (f.getD n noIns).op = 14 ∧ ¬ (f.getD n noIns).op = 13 ∧ ¬ (f.getD n noIns).op = 15 ∧ ¬ (f.getD n noIns).op = 17 ∧ ¬ (f.getD n noIns).op = 18) → usesR (f.getD n noIns) = [] := fun h => by
    unfold usesR
    rw [if_neg (by omega), if_neg (by omega)]
  have e1 : (n : Int) < (f.length : Int) := by omega
  have e2 : IntKind.i64.wrap ((n : Int) + 1) = ((n + 1 : Nat) : Int) := by rw [IntKind.wrap_i64]; omega
  have e3 : ((n : Int) + 1) = ((n + 1 : Nat) : Int) := by omega
  have hwith := fun (L' : List W) (i : Nat) (w : W) (h1 : L'.length = 24) (h2 : i < 24) => ref07_With_ok L' i w (by omega) (by omega)
  generalize stepF f ⟨L, heap, (n : Int), asked⟩ ask = RES at *
  generalize f.getD n noIns = x at *
  obtain ⟨q, hq⟩ : ∃ q, stepW ⟨L, heap, (n : Int), asked⟩ x ask = q := ⟨_, rfl⟩
  rw [hq] at hF
  unfold stepW at hq
  rw [show x.a.toNat = a by rw [ha]; simp, show x.b.toNat = b by rw [hb]; simp, show x.d.toNat = d by rw [hd]; simp] at hq
  simp only [e3] at hq
  have hga := getD_encW (l := L) (j := a) (by omega)
  have hgb := getD_encW (l := L) (j := b) (by omega)
  have hgd := getD_encW (l := L) (j := d) (by omega)
  have a1 : (a : Int) < (L.length : Int) := by omega
  have a2 : (b : Int) < (L.length : Int) := by omega
  have a3 : (d : Int) < (L.length : Int) := by omega
  rw [insA_eq] at huse
  simp only [rsA_eq, outA_eq]
  unfold encFn ints encInts at *
  generalize hUU : usesR x = U at *
  replace hUU := Hold.mk hUU
  replace e3 := Hold.mk e3
  replace hL := Hold.mk hL
  replace huse := Hold.mk huse
  replace hum := Hold.mk hum
  replace hwith := Hold.mk hwith
  obtain ⟨op, xd, xa, xb, xn, xto⟩ := x
  simp only at hd ha hb hq hu0 huse
  subst hd
  subst ha
  subst hb
  clear hR r1 f3 hmem r2 r3
  by_cases o16 : op = 16
  · subst o16
    have hu := hu0 (by omega)
    subst hu
    rw [if_neg (by omega), if_neg (by omega), if_neg (by omega), if_neg (by omega), if_neg (by omega), if_pos rfl] at hq
    subst hq
    simp only [List.all_nil] at hF
    rw [if_pos trivial, if_neg (by decide)] at hF
    subst hF
    clear hu0
    repeat' (first | simp only [seval, evx, beq_self_eq_true, sb, ew, insA, encIns, ins_dec, ins_eta, evs_eq, encEv_def, List.map_cons, List.map_nil, *] | simp (disch := omega) only [if_pos, if_neg] | refine R.seq ?_ | refine LCB.text ?_ | refine LCB.quiet rfl ?_ | refine R.anyX ?_ | refine R.block ?_ | refine LCB.skip ?_ | refine LCB.exit ?_ | refine LCB.ret ?_ | ((first | refine RetOk.val hcl ?_ | refine Weak.at hcl ?_); simp only [seval, evw, List.forall_mem_cons, List.forall_mem_map, List.forall_mem_append, List.not_mem_nil, sb, ew, insA, encIns, ins_dec, ins_eta, evs_eq, encEv_def, List.map_cons, List.map_nil, *]) | ((first | refine LCB.cond (by simp only [seval, evx] <;> rfl) ?_ ?_ | refine wpG_split (by simp only [seval, evx] <;> rfl) ?_ ?_ | refine wxG_split (by simp only [seval, evx] <;> rfl) ?_ ?_) <;> (intro hc; try simp only [seval, nf] at hc)) | refine ACalls.inst ?_ | refine CallX.inst ?_ | (with_reducible refine And.intro ?_ ?_) | exact True.intro)
  by_cases o1 : op = 1
  · subst o1
    have hu := hu0 (by omega)
    subst hu
    rw [if_neg (by omega), if_neg (by omega), if_neg (by omega), if_neg (by omega), if_neg (by omega), if_neg (by omega), if_pos (by omega)] at hq
    subst hq
    simp only [List.all_nil] at hF
    rw [if_pos trivial, if_neg (by decide)] at hF
    subst hF
    clear hu0
    have hm : moveS ⟨L, heap, (n : Int), asked⟩ ⟨1, (d : Int), (a : Int), (b : Int), xn, xto⟩ = ⟨L.set d ⟨true, xn⟩, heap, (n : Int), asked⟩ := by simp [moveS]
    rw [hm]
    replace hm := Hold.mk hm
    have hw := Hold.mk (hwith.of L d ⟨true, xn⟩ hL.of hd2)
    repeat' (first | simp only [seval, evx, beq_self_eq_true, sb, ew, insA, encIns, ins_dec, ins_eta, evs_eq, encEv_def, List.map_cons, List.map_nil, *] | simp (disch := omega) only [if_pos, if_neg] | refine R.seq ?_ | refine LCB.text ?_ | refine LCB.quiet rfl ?_ | refine R.anyX ?_ | refine R.block ?_ | refine LCB.skip ?_ | refine LCB.exit ?_ | refine LCB.ret ?_ | ((first | refine RetOk.val hcl ?_ | refine Weak.at hcl ?_); simp only [seval, evw, List.forall_mem_cons, List.forall_mem_map, List.forall_mem_append, List.not_mem_nil, sb, ew, insA, encIns, ins_dec, ins_eta, evs_eq, encEv_def, List.map_cons, List.map_nil, *]) | ((first | refine LCB.cond (by simp only [seval, evx] <;> rfl) ?_ ?_ | refine wpG_split (by simp only [seval, evx] <;> rfl) ?_ ?_ | refine wxG_split (by simp only [seval, evx] <;> rfl) ?_ ?_) <;> (intro hc; try simp only [seval, nf] at hc)) | refine ACalls.inst ?_ | refine CallX.inst ?_ | (with_reducible refine And.intro ?_ ?_) | exact True.intro)
    first | refine ACalls.pure (hw.of) ?_ | refine CallP.pure (hw.of) rfl ?_ | refine CallX.pure (hw.of) ?_
    repeat' (first | simp only [seval, evx, beq_self_eq_true, sb, ew, insA, encIns, ins_dec, ins_eta, evs_eq, encEv_def, List.map_cons, List.map_nil, *] | simp (disch := omega) only [if_pos, if_neg] | refine R.seq ?_ | refine LCB.text ?_ | refine LCB.quiet rfl ?_ | refine R.anyX ?_ | refine R.block ?_ | refine LCB.skip ?_ | refine LCB.exit ?_ | refine LCB.ret ?_ | ((first | refine RetOk.val hcl ?_ | refine Weak.at hcl ?_); simp only [seval, evw, List.forall_mem_cons, List.forall_mem_map, List.forall_mem_append, List.not_mem_nil, sb, ew, insA, encIns, ins_dec, ins_eta, evs_eq, encEv_def, List.map_cons, List.map_nil, *]) | ((first | refine LCB.cond (by simp only [seval, evx] <;> rfl) ?_ ?_ | refine wpG_split (by simp only [seval, evx] <;> rfl) ?_ ?_ | refine wxG_split (by simp only [seval, evx] <;> rfl) ?_ ?_) <;> (intro hc; try simp only [seval, nf] at hc)) | refine ACalls.inst ?_ | refine CallX.inst ?_ | (with_reducible refine And.intro ?_ ?_) | exact True.intro)
  by_cases o2 : op = 2
  · subst o2
    have hu := hu0 (by omega)
    subst hu
    rw [if_neg (by omega), if_neg (by omega), if_neg (by omega), if_neg (by omega), if_neg (by omega), if_neg (by omega), if_pos (by omega)] at hq
    subst hq
    simp only [List.all_nil] at hF
    rw [if_pos trivial, if_neg (by decide)] at hF
    subst hF
    clear hu0
    have hm : moveS ⟨L, heap, (n : Int), asked⟩ ⟨2, (d : Int), (a : Int), (b : Int), xn, xto⟩ = ⟨L.set d (L.getD a noW), heap, (n : Int), asked⟩ := by simp [moveS]
    rw [hm]
    replace hm := Hold.mk hm
    have hw := Hold.mk (hwith.of L d (L.getD a noW) hL.of hd2)
    generalize L.getD a noW = wa at *
    repeat' (first | simp only [seval, evx, beq_self_eq_true, sb, ew, insA, encIns, ins_dec, ins_eta, evs_eq, encEv_def, List.map_cons, List.map_nil, *] | simp (disch := omega) only [if_pos, if_neg] | refine R.seq ?_ | refine LCB.text ?_ | refine LCB.quiet rfl ?_ | refine R.anyX ?_ | refine R.block ?_ | refine LCB.skip ?_ | refine LCB.exit ?_ | refine LCB.ret ?_ | ((first | refine RetOk.val hcl ?_ | refine Weak.at hcl ?_); simp only [seval, evw, List.forall_mem_cons, List.forall_mem_map, List.forall_mem_append, List.not_mem_nil, sb, ew, insA, encIns, ins_dec, ins_eta, evs_eq, encEv_def, List.map_cons, List.map_nil, *]) | ((first | refine LCB.cond (by simp only [seval, evx] <;> rfl) ?_ ?_ | refine wpG_split (by simp only [seval, evx] <;> rfl) ?_ ?_ | refine wxG_split (by simp only [seval, evx] <;> rfl) ?_ ?_) <;> (intro hc; try simp only [seval, nf] at hc)) | refine ACalls.inst ?_ | refine CallX.inst ?_ | (with_reducible refine And.intro ?_ ?_) | exact True.intro)
    first | refine ACalls.pure (hw.of) ?_ | refine CallP.pure (hw.of) rfl ?_ | refine CallX.pure (hw.of) ?_
    repeat' (first | simp only [seval, evx, beq_self_eq_true, sb, ew, insA, encIns, ins_dec, ins_eta, evs_eq, encEv_def, List.map_cons, List.map_nil, *] | simp (disch := omega) only [if_pos, if_neg] | refine R.seq ?_ | refine LCB.text ?_ | refine LCB.quiet rfl ?_ | refine R.anyX ?_ | refine R.block ?_ | refine LCB.skip ?_ | refine LCB.exit ?_ | refine LCB.ret ?_ | ((first | refine RetOk.val hcl ?_ | refine Weak.at hcl ?_); simp only [seval, evw, List.forall_mem_cons, List.forall_mem_map, List.forall_mem_append, List.not_mem_nil, sb, ew, insA, encIns, ins_dec, ins_eta, evs_eq, encEv_def, List.map_cons, List.map_nil, *]) | ((first | refine LCB.cond (by simp only [seval, evx] <;> rfl) ?_ ?_ | refine wpG_split (by simp only [seval, evx] <;> rfl) ?_ ?_ | refine wxG_split (by simp only [seval, evx] <;> rfl) ?_ ?_) <;> (intro hc; try simp only [seval, nf] at hc)) | refine ACalls.inst ?_ | refine CallX.inst ?_ | (with_reducible refine And.intro ?_ ?_) | exact True.intro)
  by_cases o3 : op = 3
  · subst o3
    have hu := hu0 (by omega)
    subst hu
    rw [if_neg (by omega), if_neg (by omega), if_neg (by omega), if_neg (by omega), if_neg (by omega), if_neg (by omega), if_pos (by omega)] at hq
    subst hq
    simp only [List.all_nil] at hF
    rw [if_pos trivial, if_neg (by decide)] at hF
    subst hF
    clear hu0
    have hm : moveS ⟨L, heap, (n : Int), asked⟩ ⟨3, (d : Int), (a : Int), (b : Int), xn, xto⟩ = ⟨(L.set d (L.getD a noW)).set a (L.getD d noW), heap, (n : Int), asked⟩ := by simp [moveS]
    rw [hm]
    replace hm := Hold.mk hm
    have hw := Hold.mk (hwith.of L d (L.getD a noW) hL.of hd2)
    have hw2 := Hold.mk (hwith.of (L.set d (L.getD a noW)) a (L.getD d noW) (by rw [List.length_set]; exact hL.of) ha2)
    generalize L.getD a noW = wa at *
    generalize L.getD d noW = wd at *
    repeat' (first | simp only [seval, evx, beq_self_eq_true, sb, ew, insA, encIns, ins_dec, ins_eta, evs_eq, encEv_def, List.map_cons, List.map_nil, *] | simp (disch := omega) only [if_pos, if_neg] | refine R.seq ?_ | refine LCB.text ?_ | refine LCB.quiet rfl ?_ | refine R.anyX ?_ | refine R.block ?_ | refine LCB.skip ?_ | refine LCB.exit ?_ | refine LCB.ret ?_ | ((first | refine RetOk.val hcl ?_ | refine Weak.at hcl ?_); simp only [seval, evw, List.forall_mem_cons, List.forall_mem_map, List.forall_mem_append, List.not_mem_nil, sb, ew, insA, encIns, ins_dec, ins_eta, evs_eq, encEv_def, List.map_cons, List.map_nil, *]) | ((first | refine LCB.cond (by simp only [seval, evx] <;> rfl) ?_ ?_ | refine wpG_split (by simp only [seval, evx] <;> rfl) ?_ ?_ | refine wxG_split (by simp only [seval, evx] <;> rfl) ?_ ?_) <;> (intro hc; try simp only [seval, nf] at hc)) | refine ACalls.inst ?_ | refine CallX.inst ?_ | (with_reducible refine And.intro ?_ ?_) | exact True.intro)
    first | refine ACalls.pure (hw.of) ?_ | refine CallP.pure (hw.of) rfl ?_ | refine CallX.pure (hw.of) ?_
    repeat' (first | simp only [seval, evx, beq_self_eq_true, sb, ew, insA, encIns, ins_dec, ins_eta, evs_eq, encEv_def, List.map_cons, List.map_nil, *] | simp (disch := omega) only [if_pos, if_neg] | refine R.seq ?_ | refine LCB.text ?_ | refine LCB.quiet rfl ?_ | refine R.anyX ?_ | refine R.block ?_ | refine LCB.skip ?_ | refine LCB.exit ?_ | refine LCB.ret ?_ | ((first | refine RetOk.val hcl ?_ | refine Weak.at hcl ?_); simp only [seval, evw, List.forall_mem_cons, List.forall_mem_map, List.forall_mem_append, List.not_mem_nil, sb, ew, insA, encIns, ins_dec, ins_eta, evs_eq, encEv_def, List.map_cons, List.map_nil, *]) | ((first | refine LCB.cond (by simp only [seval, evx] <;> rfl) ?_ ?_ | refine wpG_split (by simp only [seval, evx] <;> rfl) ?_ ?_ | refine wxG_split (by simp only [seval, evx] <;> rfl) ?_ ?_) <;> (intro hc; try simp only [seval, nf] at hc)) | refine ACalls.inst ?_ | refine CallX.inst ?_ | (with_reducible refine And.intro ?_ ?_) | exact True.intro)
    first | refine ACalls.pure (hw2.of) ?_ | refine CallP.pure (hw2.of) rfl ?_ | refine CallX.pure (hw2.of) ?_
    repeat' (first | simp only [seval, evx, beq_self_eq_true, sb, ew, insA, encIns, ins_dec, ins_eta, evs_eq, encEv_def, List.map_cons, List.map_nil, *] | simp (disch := omega) only [if_pos, if_neg] | refine R.seq ?_ | refine LCB.text ?_ | refine LCB.quiet rfl ?_ | refine R.anyX ?_ | refine R.block ?_ | refine LCB.skip ?_ | refine LCB.exit ?_ | refine LCB.ret ?_ | ((first | refine RetOk.val hcl ?_ | refine Weak.at hcl ?_); simp only [seval, evw, List.forall_mem_cons, List.forall_mem_map, List.forall_mem_append, List.not_mem_nil, sb, ew, insA, encIns, ins_dec, ins_eta, evs_eq, encEv_def, List.map_cons, List.map_nil, *]) | ((first | refine LCB.cond (by simp only [seval, evx] <;> rfl) ?_ ?_ | refine wpG_split (by simp only [seval, evx] <;> rfl) ?_ ?_ | refine wxG_split (by simp only [seval, evx] <;> rfl) ?_ ?_) <;> (intro hc; try simp only [seval, nf] at hc)) | refine ACalls.inst ?_ | refine CallX.inst ?_ | (with_reducible refine And.intro ?_ ?_) | exact True.intro)
  replace hu0 := Hold.mk hu0
  replace hF := Hold.mk hF
  replace hq := Hold.mk hq
  have hU : Hold (U.all (fun l => (wAt L l).is) = (U.drop 0).all (fun l => (wAt L l).is)) := ⟨rfl⟩
  repeat' (first | simp only [seval, evx, beq_self_eq_true, sb, ew, insA, encIns, ins_dec, ins_eta, evs_eq, encEv_def, List.map_cons, List.map_nil, *] | simp (disch := omega) only [if_pos, if_neg] | refine R.seq ?_ | refine LCB.text ?_ | refine LCB.quiet rfl ?_ | refine R.anyX ?_ | refine R.block ?_ | refine LCB.skip ?_ | refine LCB.exit ?_ | refine LCB.ret ?_ | ((first | refine RetOk.val hcl ?_ | refine Weak.at hcl ?_); simp only [seval, evw, List.forall_mem_cons, List.forall_mem_map, List.forall_mem_append, List.not_mem_nil, sb, ew, insA, encIns, ins_dec, ins_eta, evs_eq, encEv_def, List.map_cons, List.map_nil, *]) | ((first | refine LCB.cond (by simp only [seval, evx] <;> rfl) ?_ ?_ | refine wpG_split (by simp only [seval, evx] <;> rfl) ?_ ?_ | refine wxG_split (by simp only [seval, evx] <;> rfl) ?_ ?_) <;> (intro hc; try simp only [seval, nf] at hc)) | refine ACalls.inst ?_ | refine CallX.inst ?_ | (with_reducible refine And.intro ?_ ?_) | exact True.intro)
  first | refine ACalls.pure (huse.of) ?_ | refine CallP.pure (huse.of) rfl ?_ | refine CallX.pure (huse.of) ?_
  repeat' (first | simp only [seval, evx, beq_self_eq_true, sb, ew, insA, encIns, ins_dec, ins_eta, evs_eq, encEv_def, List.map_cons, List.map_nil, *] | simp (disch := omega) only [if_pos, if_neg] | refine R.seq ?_ | refine LCB.text ?_ | refine LCB.quiet rfl ?_ | refine R.anyX ?_ | refine R.block ?_ | refine LCB.skip ?_ | refine LCB.exit ?_ | refine LCB.ret ?_ | ((first | refine RetOk.val hcl ?_ | refine Weak.at hcl ?_); simp only [seval, evw, List.forall_mem_cons, List.forall_mem_map, List.forall_mem_append, List.not_mem_nil, sb, ew, insA, encIns, ins_dec, ins_eta, evs_eq, encEv_def, List.map_cons, List.map_nil, *]) | ((first | refine LCB.cond (by simp only [seval, evx] <;> rfl) ?_ ?_ | refine wpG_split (by simp only [seval, evx] <;> rfl) ?_ ?_ | refine wxG_split (by simp only [seval, evx] <;> rfl) ?_ ?_) <;> (intro hc; try simp only [seval, nf] at hc)) | refine ACalls.inst ?_ | refine CallX.inst ?_ | (with_reducible refine And.intro ?_ ?_) | exact True.intro)
  refine R.loop (S := Nat) ⟨fun i => [(2, .list (ask.map encI)), (4, .ptr H.length 1 0 0), (6, .ptr (H.length + 1) 1 0 0), (8, .ptr (H.length + 2) 1 0 0), (9, .ptr (H.length + 3) 1 0 0), (10, .ptr (H.length + 4) 1 0 0), (11, .list (U.map encI)), (12, .int .i64 (i : Int))], fun i => H ++ [.vec 4 [[.list (L.map encW), .list (heap.map encI), .int .i64 (n : Int), .int .i64 asked]], .vec 4 [[.imm (.slice none 0 0), .imm (.slice none 0 0), .int .i64 0, .int .i64 0]], .vec 3 [[.int .i64 0, .int .i64 0, .imm (.slice none 0 0)]], .vec 6 [[.int .i64 op, .int .i64 (d : Int), .int .i64 (a : Int), .int .i64 (b : Int), .int .i64 xn, .int .i64 xto]], .vec 4 [[.list (L.map encW), .list (heap.map encI), .int .i64 ((n + 1 : Nat) : Int), .int .i64 asked]]],
    fun i => i ≤ U.length ∧ U.all (fun l => (wAt L l).is) = (U.drop i).all (fun l => (wAt L l).is), fun i => U.length - i⟩ 0 ⟨Nat.zero_le _, hU.of⟩ (Weak.at hcl ?_) ?_
  · simp only [seval, evw, List.forall_mem_cons, List.forall_mem_map, List.forall_mem_append, List.not_mem_nil, sb, ew, insA, encIns, ins_dec, ins_eta, evs_eq, encEv_def, List.map_cons, List.map_nil, *]
  rintro i ⟨hi, hq2⟩
  simp only at hi hq2 ⊢
  by_cases hlt : i < U.length
  · have d2 : (i : Int) < (U.length : Int) := by omega
    have d3 : IntKind.i64.wrap ((i : Int) + 1) = ((i + 1 : Nat) : Int) := by rw [IntKind.wrap_i64]; omega
    have hgu := getD_encI hlt
    obtain ⟨m, hm, hm2⟩ := hum.of (U.getD i 0) (by simp [List.getD, hlt])
    rw [hm] at hgu
    have hdr : U.drop i = U.getD i 0 :: U.drop (i + 1) := by
      rw [List.drop_eq_getElem_cons hlt]
      simp [List.getD, hlt]
    rw [hdr, hm, List.all_cons] at hq2
    have hll := hL.of
    have hgi := getD_encW (l := L) (j := m) (by omega)
    have d4 : (m : Int) < (L.length : Int) := by omega
    have hwm : wAt L (m : Int) = L.getD m noW := by simp [wAt]
    rw [hwm] at hq2
    clear hga hgb hgd
    generalize L.getD m noW = w at *
    clear hll
    replace hm := Hold.mk hm
    replace hdr := Hold.mk hdr
    replace hwm := Hold.mk hwm
    cases hwi : w.is
    · rw [hwi] at hgi hq2
      have hF2 := hF.of
      rw [hq2, Bool.false_and, if_neg (by simp)] at hF2
      subst hF2
      replace hq2 := Hold.mk hq2
      replace hwi := Hold.mk hwi
      clear hF hq
      repeat' (first | simp only [seval, evx, beq_self_eq_true, sb, ew, insA, encIns, ins_dec, ins_eta, evs_eq, encEv_def, List.map_cons, List.map_nil, *] | simp (disch := omega) only [if_pos, if_neg] | refine R.seq ?_ | refine LCB.text ?_ | refine LCB.quiet rfl ?_ | refine R.anyX ?_ | refine R.block ?_ | refine LCB.skip ?_ | refine LCB.exit ?_ | refine LCB.ret ?_ | ((first | refine RetOk.val hcl ?_ | refine Weak.at hcl ?_); simp only [seval, evw, List.forall_mem_cons, List.forall_mem_map, List.forall_mem_append, List.not_mem_nil, sb, ew, insA, encIns, ins_dec, ins_eta, evs_eq, encEv_def, List.map_cons, List.map_nil, *]) | ((first | refine LCB.cond (by simp only [seval, evx] <;> rfl) ?_ ?_ | refine wpG_split (by simp only [seval, evx] <;> rfl) ?_ ?_ | refine wxG_split (by simp only [seval, evx] <;> rfl) ?_ ?_) <;> (intro hc; try simp only [seval, nf] at hc)) | refine ACalls.inst ?_ | refine CallX.inst ?_ | (with_reducible refine And.intro ?_ ?_) | exact True.intro)
    · rw [hwi, Bool.true_and] at hq2
      rw [hwi] at hgi
      replace hq2 := Hold.mk hq2
      replace hwi := Hold.mk hwi
      repeat' (first | simp only [seval, evx, beq_self_eq_true, sb, ew, insA, encIns, ins_dec, ins_eta, evs_eq, encEv_def, List.map_cons, List.map_nil, *] | simp (disch := omega) only [if_pos, if_neg] | refine R.seq ?_ | refine LCB.text ?_ | refine LCB.quiet rfl ?_ | refine R.anyX ?_ | refine R.block ?_ | refine LCB.skip ?_ | refine LCB.exit ?_ | refine LCB.ret ?_ | ((first | refine RetOk.val hcl ?_ | refine Weak.at hcl ?_); simp only [seval, evw, List.forall_mem_cons, List.forall_mem_map, List.forall_mem_append, List.not_mem_nil, sb, ew, insA, encIns, ins_dec, ins_eta, evs_eq, encEv_def, List.map_cons, List.map_nil, *]) | ((first | refine LCB.cond (by simp only [seval, evx] <;> rfl) ?_ ?_ | refine wpG_split (by simp only [seval, evx] <;> rfl) ?_ ?_ | refine wxG_split (by simp only [seval, evx] <;> rfl) ?_ ?_) <;> (intro hc; try simp only [seval, nf] at hc)) | refine ACalls.inst ?_ | refine CallX.inst ?_ | (with_reducible refine And.intro ?_ ?_) | exact True.intro)
      refine ⟨i + 1, ⟨hlt, hq2.of⟩, by simp only; omega, Weak.at hcl ?_⟩
      simp only [seval, evw, List.forall_mem_cons, List.forall_mem_map, List.forall_mem_append, List.not_mem_nil, sb, ew, insA, encIns, ins_dec, ins_eta, evs_eq, encEv_def, List.map_cons, List.map_nil, *]
  · have hie : i = U.length := by omega
    subst hie
    have d2 : ¬ (U.length : Int) < (U.length : Int) := by omega
    rw [List.drop_length, List.all_nil] at hq2
    replace hF := hF.of
    rw [hq2, if_pos rfl] at hF
    replace hq := hq.of
    clear hU hum huse hu0 hul
    replace hq2 := Hold.mk hq2
    have hld := ref06_Load_ok heap (L.getD a noW).v
    have hst := ref06_Store_ok heap (L.getD a noW).v (L.getD b noW).v
    have hnum := ref01_Do_ok op (L.getD a noW).v (L.getD b noW).v
    have hwd := Hold.mk (fun v => hwith.of L d ⟨true, v⟩ hL.of hd2)
    have hlh := hLoad_how heap (L.getD a noW).v
    have hsh := hStore_how heap (L.getD a noW).v (L.getD b noW).v
    have hnh := numDo_how op (L.getD a noW).v (L.getD b noW).v
    replace hlh := Hold.mk hlh
    replace hsh := Hold.mk hsh
    replace hnh := Hold.mk hnh
    generalize hwa : L.getD a noW = wa at *
    generalize hwb : L.getD b noW = wb at *
    clear hgd
    replace hwa := Hold.mk hwa
    replace hwb := Hold.mk hwb
    unfold hLoadA ints at hld
    unfold hStoreA ints at hst
    unfold nopR at hnum
    by_cases o18 : op = 18
    · subst o18
      rw [if_neg (by omega), if_neg (by omega), if_neg (by omega), if_pos rfl] at hq
      subst hq
      simp only at hF
      rw [if_pos trivial] at hF
      subst hF
      replace hld := Hold.mk hld
      replace hst := Hold.mk hst
      replace hnum := Hold.mk hnum
      repeat' (first | simp only [seval, evx, beq_self_eq_true, sb, ew, insA, encIns, ins_dec, ins_eta, evs_eq, encEv_def, List.map_cons, List.map_nil, *] | simp (disch := omega) only [if_pos, if_neg] | refine R.seq ?_ | refine LCB.text ?_ | refine LCB.quiet rfl ?_ | refine R.anyX ?_ | refine R.block ?_ | refine LCB.skip ?_ | refine LCB.exit ?_ | refine LCB.ret ?_ | ((first | refine RetOk.val hcl ?_ | refine Weak.at hcl ?_); simp only [seval, evw, List.forall_mem_cons, List.forall_mem_map, List.forall_mem_append, List.not_mem_nil, sb, ew, insA, encIns, ins_dec, ins_eta, evs_eq, encEv_def, List.map_cons, List.map_nil, *]) | ((first | refine LCB.cond (by simp only [seval, evx] <;> rfl) ?_ ?_ | refine wpG_split (by simp only [seval, evx] <;> rfl) ?_ ?_ | refine wxG_split (by simp only [seval, evx] <;> rfl) ?_ ?_) <;> (intro hc; try simp only [seval, nf] at hc)) | refine ACalls.inst ?_ | refine CallX.inst ?_ | (with_reducible refine And.intro ?_ ?_) | exact True.intro)
    by_cases o17 : op = 17
    · subst o17
      rw [if_neg (by omega), if_neg (by omega), if_neg (by omega), if_neg (by omega), if_pos rfl] at hq
      replace hld := Hold.mk hld
      replace hst := Hold.mk hst
      replace hnum := Hold.mk hnum
      by_cases hz : wa.v = 0
      · rw [if_pos hz] at hq
        subst hq
        simp only at hF
        rw [if_neg (by decide)] at hF
        subst hF
        repeat' (first | simp only [seval, evx, beq_self_eq_true, sb, ew, insA, encIns, ins_dec, ins_eta, evs_eq, encEv_def, List.map_cons, List.map_nil, *] | simp (disch := omega) only [if_pos, if_neg] | refine R.seq ?_ | refine LCB.text ?_ | refine LCB.quiet rfl ?_ | refine R.anyX ?_ | refine R.block ?_ | refine LCB.skip ?_ | refine LCB.exit ?_ | refine LCB.ret ?_ | ((first | refine RetOk.val hcl ?_ | refine Weak.at hcl ?_); simp only [seval, evw, List.forall_mem_cons, List.forall_mem_map, List.forall_mem_append, List.not_mem_nil, sb, ew, insA, encIns, ins_dec, ins_eta, evs_eq, encEv_def, List.map_cons, List.map_nil, *]) | ((first | refine LCB.cond (by simp only [seval, evx] <;> rfl) ?_ ?_ | refine wpG_split (by simp only [seval, evx] <;> rfl) ?_ ?_ | refine wxG_split (by simp only [seval, evx] <;> rfl) ?_ ?_) <;> (intro hc; try simp only [seval, nf] at hc)) | refine ACalls.inst ?_ | refine CallX.inst ?_ | (with_reducible refine And.intro ?_ ?_) | exact True.intro)
      · rw [if_neg hz] at hq
        subst hq
        simp only at hF
        rw [if_neg (by decide)] at hF
        subst hF
        repeat' (first | simp only [seval, evx, beq_self_eq_true, sb, ew, insA, encIns, ins_dec, ins_eta, evs_eq, encEv_def, List.map_cons, List.map_nil, *] | simp (disch := omega) only [if_pos, if_neg] | refine R.seq ?_ | refine LCB.text ?_ | refine LCB.quiet rfl ?_ | refine R.anyX ?_ | refine R.block ?_ | refine LCB.skip ?_ | refine LCB.exit ?_ | refine LCB.ret ?_ | ((first | refine RetOk.val hcl ?_ | refine Weak.at hcl ?_); simp only [seval, evw, List.forall_mem_cons, List.forall_mem_map, List.forall_mem_append, List.not_mem_nil, sb, ew, insA, encIns, ins_dec, ins_eta, evs_eq, encEv_def, List.map_cons, List.map_nil, *]) | ((first | refine LCB.cond (by simp only [seval, evx] <;> rfl) ?_ ?_ | refine wpG_split (by simp only [seval, evx] <;> rfl) ?_ ?_ | refine wxG_split (by simp only [seval, evx] <;> rfl) ?_ ?_) <;> (intro hc; try simp only [seval, nf] at hc)) | refine ACalls.inst ?_ | refine CallX.inst ?_ | (with_reducible refine And.intro ?_ ?_) | exact True.intro)
    by_cases o14 : op = 14
    · subst o14
      rw [if_neg (by omega), if_pos rfl] at hq
      generalize hStore heap wa.v wb.v = p at *
      obtain ⟨h', how⟩ := p
      simp only at hq hst
      replace hld := Hold.mk hld
      replace hst := Hold.mk hst
      replace hnum := Hold.mk hnum
      by_cases hh : how = 0
      · subst hh
        rw [if_pos rfl] at hq
        subst hq
        simp only at hF
        rw [if_neg (by decide)] at hF
        subst hF
        repeat' (first | simp only [seval, evx, beq_self_eq_true, sb, ew, insA, encIns, ins_dec, ins_eta, evs_eq, encEv_def, List.map_cons, List.map_nil, *] | simp (disch := omega) only [if_pos, if_neg] | refine R.seq ?_ | refine LCB.text ?_ | refine LCB.quiet rfl ?_ | refine R.anyX ?_ | refine R.block ?_ | refine LCB.skip ?_ | refine LCB.exit ?_ | refine LCB.ret ?_ | ((first | refine RetOk.val hcl ?_ | refine Weak.at hcl ?_); simp only [seval, evw, List.forall_mem_cons, List.forall_mem_map, List.forall_mem_append, List.not_mem_nil, sb, ew, insA, encIns, ins_dec, ins_eta, evs_eq, encEv_def, List.map_cons, List.map_nil, *]) | ((first | refine LCB.cond (by simp only [seval, evx] <;> rfl) ?_ ?_ | refine wpG_split (by simp only [seval, evx] <;> rfl) ?_ ?_ | refine wxG_split (by simp only [seval, evx] <;> rfl) ?_ ?_) <;> (intro hc; try simp only [seval, nf] at hc)) | refine ACalls.inst ?_ | refine CallX.inst ?_ | (with_reducible refine And.intro ?_ ?_) | exact True.intro)
        first | refine ACalls.pure (hst.of) ?_ | refine CallP.pure (hst.of) rfl ?_ | refine CallX.pure (hst.of) ?_
        repeat' (first | simp only [seval, evx, beq_self_eq_true, sb, ew, insA, encIns, ins_dec, ins_eta, evs_eq, encEv_def, List.map_cons, List.map_nil, *] | simp (disch := omega) only [if_pos, if_neg] | refine R.seq ?_ | refine LCB.text ?_ | refine LCB.quiet rfl ?_ | refine R.anyX ?_ | refine R.block ?_ | refine LCB.skip ?_ | refine LCB.exit ?_ | refine LCB.ret ?_ | ((first | refine RetOk.val hcl ?_ | refine Weak.at hcl ?_); simp only [seval, evw, List.forall_mem_cons, List.forall_mem_map, List.forall_mem_append, List.not_mem_nil, sb, ew, insA, encIns, ins_dec, ins_eta, evs_eq, encEv_def, List.map_cons, List.map_nil, *]) | ((first | refine LCB.cond (by simp only [seval, evx] <;> rfl) ?_ ?_ | refine wpG_split (by simp only [seval, evx] <;> rfl) ?_ ?_ | refine wxG_split (by simp only [seval, evx] <;> rfl) ?_ ?_) <;> (intro hc; try simp only [seval, nf] at hc)) | refine ACalls.inst ?_ | refine CallX.inst ?_ | (with_reducible refine And.intro ?_ ?_) | exact True.intro)
      · rw [if_neg hh] at hq
        subst hq
        simp only at hF
        have hh1 : ¬ how = 1 := by have := hsh.of; simp only at this; omega
        rw [if_neg hh1] at hF
        subst hF
        repeat' (first | simp only [seval, evx, beq_self_eq_true, sb, ew, insA, encIns, ins_dec, ins_eta, evs_eq, encEv_def, List.map_cons, List.map_nil, *] | simp (disch := omega) only [if_pos, if_neg] | refine R.seq ?_ | refine LCB.text ?_ | refine LCB.quiet rfl ?_ | refine R.anyX ?_ | refine R.block ?_ | refine LCB.skip ?_ | refine LCB.exit ?_ | refine LCB.ret ?_ | ((first | refine RetOk.val hcl ?_ | refine Weak.at hcl ?_); simp only [seval, evw, List.forall_mem_cons, List.forall_mem_map, List.forall_mem_append, List.not_mem_nil, sb, ew, insA, encIns, ins_dec, ins_eta, evs_eq, encEv_def, List.map_cons, List.map_nil, *]) | ((first | refine LCB.cond (by simp only [seval, evx] <;> rfl) ?_ ?_ | refine wpG_split (by simp only [seval, evx] <;> rfl) ?_ ?_ | refine wxG_split (by simp only [seval, evx] <;> rfl) ?_ ?_) <;> (intro hc; try simp only [seval, nf] at hc)) | refine ACalls.inst ?_ | refine CallX.inst ?_ | (with_reducible refine And.intro ?_ ?_) | exact True.intro)
        first | refine ACalls.pure (hst.of) ?_ | refine CallP.pure (hst.of) rfl ?_ | refine CallX.pure (hst.of) ?_
        repeat' (first | simp only [seval, evx, beq_self_eq_true, sb, ew, insA, encIns, ins_dec, ins_eta, evs_eq, encEv_def, List.map_cons, List.map_nil, *] | simp (disch := omega) only [if_pos, if_neg] | refine R.seq ?_ | refine LCB.text ?_ | refine LCB.quiet rfl ?_ | refine R.anyX ?_ | refine R.block ?_ | refine LCB.skip ?_ | refine LCB.exit ?_ | refine LCB.ret ?_ | ((first | refine RetOk.val hcl ?_ | refine Weak.at hcl ?_); simp only [seval, evw, List.forall_mem_cons, List.forall_mem_map, List.forall_mem_append, List.not_mem_nil, sb, ew, insA, encIns, ins_dec, ins_eta, evs_eq, encEv_def, List.map_cons, List.map_nil, *]) | ((first | refine LCB.cond (by simp only [seval, evx] <;> rfl) ?_ ?_ | refine wpG_split (by simp only [seval, evx] <;> rfl) ?_ ?_ | refine wxG_split (by simp only [seval, evx] <;> rfl) ?_ ?_) <;> (intro hc; try simp only [seval, nf] at hc)) | refine ACalls.inst ?_ | refine CallX.inst ?_ | (with_reducible refine And.intro ?_ ?_) | exact True.intro)
    by_cases o15 : op = 15
    · subst o15
      rw [if_neg (by omega), if_neg (by omega), if_pos rfl] at hq
      replace hld := Hold.mk hld
      replace hst := Hold.mk hst
      replace hnum := Hold.mk hnum
      obtain ⟨m, rfl⟩ := Int.eq_ofNat_of_zero_le r5
      by_cases hlt2 : (m : Int) < (ask.length : Int)
      · have hml : m < ask.length := by omega
        rw [if_pos hlt2] at hq
        have hgm := getD_encI hml
        have c1 : ¬ (ask.length : Int) ≤ (m : Int) := by omega
        have c2 : IntKind.i64.wrap ((m : Int) + 1) = ((m + 1 : Nat) : Int) := by rw [IntKind.wrap_i64]; omega
        have hcS : callS ⟨L, heap, (n : Int), (m : Int)⟩ d (ask.getD m 0) = ⟨L.set d ⟨true, ask.getD m 0⟩, heap, (n : Int), ((m + 1 : Nat) : Int)⟩ := by simp [callS]
        simp only [Int.toNat_natCast, hcS] at hq
        clear hcS
        generalize ask.getD m 0 = ans at *
        subst hq
        simp only at hF
        rw [if_neg (by decide)] at hF
        subst hF
        have hw := Hold.mk (hwd.of ans)
        repeat' (first | simp only [seval, evx, beq_self_eq_true, sb, ew, insA, encIns, ins_dec, ins_eta, evs_eq, encEv_def, List.map_cons, List.map_nil, *] | simp (disch := omega) only [if_pos, if_neg] | refine R.seq ?_ | refine LCB.text ?_ | refine LCB.quiet rfl ?_ | refine R.anyX ?_ | refine R.block ?_ | refine LCB.skip ?_ | refine LCB.exit ?_ | refine LCB.ret ?_ | ((first | refine RetOk.val hcl ?_ | refine Weak.at hcl ?_); simp only [seval, evw, List.forall_mem_cons, List.forall_mem_map, List.forall_mem_append, List.not_mem_nil, sb, ew, insA, encIns, ins_dec, ins_eta, evs_eq, encEv_def, List.map_cons, List.map_nil, *]) | ((first | refine LCB.cond (by simp only [seval, evx] <;> rfl) ?_ ?_ | refine wpG_split (by simp only [seval, evx] <;> rfl) ?_ ?_ | refine wxG_split (by simp only [seval, evx] <;> rfl) ?_ ?_) <;> (intro hc; try simp only [seval, nf] at hc)) | refine ACalls.inst ?_ | refine CallX.inst ?_ | (with_reducible refine And.intro ?_ ?_) | exact True.intro)
        first | refine ACalls.pure (hw.of) ?_ | refine CallP.pure (hw.of) rfl ?_ | refine CallX.pure (hw.of) ?_
        repeat' (first | simp only [seval, evx, beq_self_eq_true, sb, ew, insA, encIns, ins_dec, ins_eta, evs_eq, encEv_def, List.map_cons, List.map_nil, *] | simp (disch := omega) only [if_pos, if_neg] | refine R.seq ?_ | refine LCB.text ?_ | refine LCB.quiet rfl ?_ | refine R.anyX ?_ | refine R.block ?_ | refine LCB.skip ?_ | refine LCB.exit ?_ | refine LCB.ret ?_ | ((first | refine RetOk.val hcl ?_ | refine Weak.at hcl ?_); simp only [seval, evw, List.forall_mem_cons, List.forall_mem_map, List.forall_mem_append, List.not_mem_nil, sb, ew, insA, encIns, ins_dec, ins_eta, evs_eq, encEv_def, List.map_cons, List.map_nil, *]) | ((first | refine LCB.cond (by simp only [seval, evx] <;> rfl) ?_ ?_ | refine wpG_split (by simp only [seval, evx] <;> rfl) ?_ ?_ | refine wxG_split (by simp only [seval, evx] <;> rfl) ?_ ?_) <;> (intro hc; try simp only [seval, nf] at hc)) | refine ACalls.inst ?_ | refine CallX.inst ?_ | (with_reducible refine And.intro ?_ ?_) | exact True.intro)
      · rw [if_neg hlt2] at hq
        have c1 : (ask.length : Int) ≤ (m : Int) := by omega
        subst hq
        simp only at hF
        rw [if_neg (by decide)] at hF
        subst hF
        repeat' (first | simp only [seval, evx, beq_self_eq_true, sb, ew, insA, encIns, ins_dec, ins_eta, evs_eq, encEv_def, List.map_cons, List.map_nil, *] | simp (disch := omega) only [if_pos, if_neg] | refine R.seq ?_ | refine LCB.text ?_ | refine LCB.quiet rfl ?_ | refine R.anyX ?_ | refine R.block ?_ | refine LCB.skip ?_ | refine LCB.exit ?_ | refine LCB.ret ?_ | ((first | refine RetOk.val hcl ?_ | refine Weak.at hcl ?_); simp only [seval, evw, List.forall_mem_cons, List.forall_mem_map, List.forall_mem_append, List.not_mem_nil, sb, ew, insA, encIns, ins_dec, ins_eta, evs_eq, encEv_def, List.map_cons, List.map_nil, *]) | ((first | refine LCB.cond (by simp only [seval, evx] <;> rfl) ?_ ?_ | refine wpG_split (by simp only [seval, evx] <;> rfl) ?_ ?_ | refine wxG_split (by simp only [seval, evx] <;> rfl) ?_ ?_) <;> (intro hc; try simp only [seval, nf] at hc)) | refine ACalls.inst ?_ | refine CallX.inst ?_ | (with_reducible refine And.intro ?_ ?_) | exact True.intro)
    by_cases o13 : op = 13
    · subst o13
      rw [if_pos rfl] at hq
      generalize hLoad heap wa.v = p at *
      obtain ⟨v, how⟩ := p
      simp only at hq hld
      replace hld := Hold.mk hld
      replace hst := Hold.mk hst
      replace hnum := Hold.mk hnum
      by_cases hh : how = 0
      · subst hh
        rw [if_pos rfl] at hq
        subst hq
        simp only at hF
        rw [if_neg (by decide)] at hF
        subst hF
        have hw := Hold.mk (hwd.of v)
        have hs : setS ⟨L, heap, (n : Int), asked⟩ d v 0 = ⟨L.set d ⟨true, v⟩, heap, (n : Int), asked⟩ := by simp [setS]
        rw [hs]
        replace hs := Hold.mk hs
        repeat' (first | simp only [seval, evx, beq_self_eq_true, sb, ew, insA, encIns, ins_dec, ins_eta, evs_eq, encEv_def, List.map_cons, List.map_nil, *] | simp (disch := omega) only [if_pos, if_neg] | refine R.seq ?_ | refine LCB.text ?_ | refine LCB.quiet rfl ?_ | refine R.anyX ?_ | refine R.block ?_ | refine LCB.skip ?_ | refine LCB.exit ?_ | refine LCB.ret ?_ | ((first | refine RetOk.val hcl ?_ | refine Weak.at hcl ?_); simp only [seval, evw, List.forall_mem_cons, List.forall_mem_map, List.forall_mem_append, List.not_mem_nil, sb, ew, insA, encIns, ins_dec, ins_eta, evs_eq, encEv_def, List.map_cons, List.map_nil, *]) | ((first | refine LCB.cond (by simp only [seval, evx] <;> rfl) ?_ ?_ | refine wpG_split (by simp only [seval, evx] <;> rfl) ?_ ?_ | refine wxG_split (by simp only [seval, evx] <;> rfl) ?_ ?_) <;> (intro hc; try simp only [seval, nf] at hc)) | refine ACalls.inst ?_ | refine CallX.inst ?_ | (with_reducible refine And.intro ?_ ?_) | exact True.intro)
        first | refine ACalls.pure (hnum.of) ?_ | refine CallP.pure (hnum.of) rfl ?_ | refine CallX.pure (hnum.of) ?_
        repeat' (first | simp only [seval, evx, beq_self_eq_true, sb, ew, insA, encIns, ins_dec, ins_eta, evs_eq, encEv_def, List.map_cons, List.map_nil, *] | simp (disch := omega) only [if_pos, if_neg] | refine R.seq ?_ | refine LCB.text ?_ | refine LCB.quiet rfl ?_ | refine R.anyX ?_ | refine R.block ?_ | refine LCB.skip ?_ | refine LCB.exit ?_ | refine LCB.ret ?_ | ((first | refine RetOk.val hcl ?_ | refine Weak.at hcl ?_); simp only [seval, evw, List.forall_mem_cons, List.forall_mem_map, List.forall_mem_append, List.not_mem_nil, sb, ew, insA, encIns, ins_dec, ins_eta, evs_eq, encEv_def, List.map_cons, List.map_nil, *]) | ((first | refine LCB.cond (by simp only [seval, evx] <;> rfl) ?_ ?_ | refine wpG_split (by simp only [seval, evx] <;> rfl) ?_ ?_ | refine wxG_split (by simp only [seval, evx] <;> rfl) ?_ ?_) <;> (intro hc; try simp only [seval, nf] at hc)) | refine ACalls.inst ?_ | refine CallX.inst ?_ | (with_reducible refine And.intro ?_ ?_) | exact True.intro)
        first | refine ACalls.pure (hld.of) ?_ | refine CallP.pure (hld.of) rfl ?_ | refine CallX.pure (hld.of) ?_
        repeat' (first | simp only [seval, evx, beq_self_eq_true, sb, ew, insA, encIns, ins_dec, ins_eta, evs_eq, encEv_def, List.map_cons, List.map_nil, *] | simp (disch := omega) only [if_pos, if_neg] | refine R.seq ?_ | refine LCB.text ?_ | refine LCB.quiet rfl ?_ | refine R.anyX ?_ | refine R.block ?_ | refine LCB.skip ?_ | refine LCB.exit ?_ | refine LCB.ret ?_ | ((first | refine RetOk.val hcl ?_ | refine Weak.at hcl ?_); simp only [seval, evw, List.forall_mem_cons, List.forall_mem_map, List.forall_mem_append, List.not_mem_nil, sb, ew, insA, encIns, ins_dec, ins_eta, evs_eq, encEv_def, List.map_cons, List.map_nil, *]) | ((first | refine LCB.cond (by simp only [seval, evx] <;> rfl) ?_ ?_ | refine wpG_split (by simp only [seval, evx] <;> rfl) ?_ ?_ | refine wxG_split (by simp only [seval, evx] <;> rfl) ?_ ?_) <;> (intro hc; try simp only [seval, nf] at hc)) | refine ACalls.inst ?_ | refine CallX.inst ?_ | (with_reducible refine And.intro ?_ ?_) | exact True.intro)
        first | refine ACalls.pure (hw.of) ?_ | refine CallP.pure (hw.of) rfl ?_ | refine CallX.pure (hw.of) ?_
        repeat' (first | simp only [seval, evx, beq_self_eq_true, sb, ew, insA, encIns, ins_dec, ins_eta, evs_eq, encEv_def, List.map_cons, List.map_nil, *] | simp (disch := omega) only [if_pos, if_neg] | refine R.seq ?_ | refine LCB.text ?_ | refine LCB.quiet rfl ?_ | refine R.anyX ?_ | refine R.block ?_ | refine LCB.skip ?_ | refine LCB.exit ?_ | refine LCB.ret ?_ | ((first | refine RetOk.val hcl ?_ | refine Weak.at hcl ?_); simp only [seval, evw, List.forall_mem_cons, List.forall_mem_map, List.forall_mem_append, List.not_mem_nil, sb, ew, insA, encIns, ins_dec, ins_eta, evs_eq, encEv_def, List.map_cons, List.map_nil, *]) | ((first | refine LCB.cond (by simp only [seval, evx] <;> rfl) ?_ ?_ | refine wpG_split (by simp only [seval, evx] <;> rfl) ?_ ?_ | refine wxG_split (by simp only [seval, evx] <;> rfl) ?_ ?_) <;> (intro hc; try simp only [seval, nf] at hc)) | refine ACalls.inst ?_ | refine CallX.inst ?_ | (with_reducible refine And.intro ?_ ?_) | exact True.intro)
      · rw [if_neg hh] at hq
        subst hq
        simp only at hF
        have hh1 : ¬ how = 1 := by have := hlh.of; simp only at this; omega
        rw [if_neg hh1] at hF
        subst hF
        repeat' (first | simp only [seval, evx, beq_self_eq_true, sb, ew, insA, encIns, ins_dec, ins_eta, evs_eq, encEv_def, List.map_cons, List.map_nil, *] | simp (disch := omega) only [if_pos, if_neg] | refine R.seq ?_ | refine LCB.text ?_ | refine LCB.quiet rfl ?_ | refine R.anyX ?_ | refine R.block ?_ | refine LCB.skip ?_ | refine LCB.exit ?_ | refine LCB.ret ?_ | ((first | refine RetOk.val hcl ?_ | refine Weak.at hcl ?_); simp only [seval, evw, List.forall_mem_cons, List.forall_mem_map, List.forall_mem_append, List.not_mem_nil, sb, ew, insA, encIns, ins_dec, ins_eta, evs_eq, encEv_def, List.map_cons, List.map_nil, *]) | ((first | refine LCB.cond (by simp only [seval, evx] <;> rfl) ?_ ?_ | refine wpG_split (by simp only [seval, evx] <;> rfl) ?_ ?_ | refine wxG_split (by simp only [seval, evx] <;> rfl) ?_ ?_) <;> (intro hc; try simp only [seval, nf] at hc)) | refine ACalls.inst ?_ | refine CallX.inst ?_ | (with_reducible refine And.intro ?_ ?_) | exact True.intro)
        first | refine ACalls.pure (hnum.of) ?_ | refine CallP.pure (hnum.of) rfl ?_ | refine CallX.pure (hnum.of) ?_
        repeat' (first | simp only [seval, evx, beq_self_eq_true, sb, ew, insA, encIns, ins_dec, ins_eta, evs_eq, encEv_def, List.map_cons, List.map_nil, *] | simp (disch := omega) only [if_pos, if_neg] | refine R.seq ?_ | refine LCB.text ?_ | refine LCB.quiet rfl ?_ | refine R.anyX ?_ | refine R.block ?_ | refine LCB.skip ?_ | refine LCB.exit ?_ | refine LCB.ret ?_ | ((first | refine RetOk.val hcl ?_ | refine Weak.at hcl ?_); simp only [seval, evw, List.forall_mem_cons, List.forall_mem_map, List.forall_mem_append, List.not_mem_nil, sb, ew, insA, encIns, ins_dec, ins_eta, evs_eq, encEv_def, List.map_cons, List.map_nil, *]) | ((first | refine LCB.cond (by simp only [seval, evx] <;> rfl) ?_ ?_ | refine wpG_split (by simp only [seval, evx] <;> rfl) ?_ ?_ | refine wxG_split (by simp only [seval, evx] <;> rfl) ?_ ?_) <;> (intro hc; try simp only [seval, nf] at hc)) | refine ACalls.inst ?_ | refine CallX.inst ?_ | (with_reducible refine And.intro ?_ ?_) | exact True.intro)
        first | refine ACalls.pure (hld.of) ?_ | refine CallP.pure (hld.of) rfl ?_ | refine CallX.pure (hld.of) ?_
        repeat' (first | simp only [seval, evx, beq_self_eq_true, sb, ew, insA, encIns, ins_dec, ins_eta, evs_eq, encEv_def, List.map_cons, List.map_nil, *] | simp (disch := omega) only [if_pos, if_neg] | refine R.seq ?_ | refine LCB.text ?_ | refine LCB.quiet rfl ?_ | refine R.anyX ?_ | refine R.block ?_ | refine LCB.skip ?_ | refine LCB.exit ?_ | refine LCB.ret ?_ | ((first | refine RetOk.val hcl ?_ | refine Weak.at hcl ?_); simp only [seval, evw, List.forall_mem_cons, List.forall_mem_map, List.forall_mem_append, List.not_mem_nil, sb, ew, insA, encIns, ins_dec, ins_eta, evs_eq, encEv_def, List.map_cons, List.map_nil, *]) | ((first | refine LCB.cond (by simp only [seval, evx] <;> rfl) ?_ ?_ | refine wpG_split (by simp only [seval, evx] <;> rfl) ?_ ?_ | refine wxG_split (by simp only [seval, evx] <;> rfl) ?_ ?_) <;> (intro hc; try simp only [seval, nf] at hc)) | refine ACalls.inst ?_ | refine CallX.inst ?_ | (with_reducible refine And.intro ?_ ?_) | exact True.intro)
    rw [if_neg o13, if_neg o14, if_neg o15, if_neg o18, if_neg o17, if_neg o16, if_neg (by omega)] at hq
    generalize numDo op wa.v wb.v = p at *
    obtain ⟨v, how⟩ := p
    simp only at hq hnum
    replace hld := Hold.mk hld
    replace hst := Hold.mk hst
    replace hnum := Hold.mk hnum
    by_cases hh : how = 0
    · subst hh
      rw [if_pos rfl] at hq
      subst hq
      simp only at hF
      rw [if_neg (by decide)] at hF
      subst hF
      have hw := Hold.mk (hwd.of v)
      have hs : setS ⟨L, heap, (n : Int), asked⟩ d v 0 = ⟨L.set d ⟨true, v⟩, heap, (n : Int), asked⟩ := by simp [setS]
      rw [hs]
      replace hs := Hold.mk hs
      repeat' (first | simp only [seval, evx, beq_self_eq_true, sb, ew, insA, encIns, ins_dec, ins_eta, evs_eq, encEv_def, List.map_cons, List.map_nil, *] | simp (disch := omega) only [if_pos, if_neg] | refine R.seq ?_ | refine LCB.text ?_ | refine LCB.quiet rfl ?_ | refine R.anyX ?_ | refine R.block ?_ | refine LCB.skip ?_ | refine LCB.exit ?_ | refine LCB.ret ?_ | ((first | refine RetOk.val hcl ?_ | refine Weak.at hcl ?_); simp only [seval, evw, List.forall_mem_cons, List.forall_mem_map, List.forall_mem_append, List.not_mem_nil, sb, ew, insA, encIns, ins_dec, ins_eta, evs_eq, encEv_def, List.map_cons, List.map_nil, *]) | ((first | refine LCB.cond (by simp only [seval, evx] <;> rfl) ?_ ?_ | refine wpG_split (by simp only [seval, evx] <;> rfl) ?_ ?_ | refine wxG_split (by simp only [seval, evx] <;> rfl) ?_ ?_) <;> (intro hc; try simp only [seval, nf] at hc)) | refine ACalls.inst ?_ | refine CallX.inst ?_ | (with_reducible refine And.intro ?_ ?_) | exact True.intro)
      first | refine ACalls.pure (hnum.of) ?_ | refine CallP.pure (hnum.of) rfl ?_ | refine CallX.pure (hnum.of) ?_
      repeat' (first | simp only [seval, evx, beq_self_eq_true, sb, ew, insA, encIns, ins_dec, ins_eta, evs_eq, encEv_def, List.map_cons, List.map_nil, *] | simp (disch := omega) only [if_pos, if_neg] | refine R.seq ?_ | refine LCB.text ?_ | refine LCB.quiet rfl ?_ | refine R.anyX ?_ | refine R.block ?_ | refine LCB.skip ?_ | refine LCB.exit ?_ | refine LCB.ret ?_ | ((first | refine RetOk.val hcl ?_ | refine Weak.at hcl ?_); simp only [seval, evw, List.forall_mem_cons, List.forall_mem_map, List.forall_mem_append, List.not_mem_nil, sb, ew, insA, encIns, ins_dec, ins_eta, evs_eq, encEv_def, List.map_cons, List.map_nil, *]) | ((first | refine LCB.cond (by simp only [seval, evx] <;> rfl) ?_ ?_ | refine wpG_split (by simp only [seval, evx] <;> rfl) ?_ ?_ | refine wxG_split (by simp only [seval, evx] <;> rfl) ?_ ?_) <;> (intro hc; try simp only [seval, nf] at hc)) | refine ACalls.inst ?_ | refine CallX.inst ?_ | (with_reducible refine And.intro ?_ ?_) | exact True.intro)
      first | refine ACalls.pure (hw.of) ?_ | refine CallP.pure (hw.of) rfl ?_ | refine CallX.pure (hw.of) ?_
      repeat' (first | simp only [seval, evx, beq_self_eq_true, sb, ew, insA, encIns, ins_dec, ins_eta, evs_eq, encEv_def, List.map_cons, List.map_nil, *] | simp (disch := omega) only [if_pos, if_neg] | refine R.seq ?_ | refine LCB.text ?_ | refine LCB.quiet rfl ?_ | refine R.anyX ?_ | refine R.block ?_ | refine LCB.skip ?_ | refine LCB.exit ?_ | refine LCB.ret ?_ | ((first | refine RetOk.val hcl ?_ | refine Weak.at hcl ?_); simp only [seval, evw, List.forall_mem_cons, List.forall_mem_map, List.forall_mem_append, List.not_mem_nil, sb, ew, insA, encIns, ins_dec, ins_eta, evs_eq, encEv_def, List.map_cons, List.map_nil, *]) | ((first | refine LCB.cond (by simp only [seval, evx] <;> rfl) ?_ ?_ | refine wpG_split (by simp only [seval, evx] <;> rfl) ?_ ?_ | refine wxG_split (by simp only [seval, evx] <;> rfl) ?_ ?_) <;> (intro hc; try simp only [seval, nf] at hc)) | refine ACalls.inst ?_ | refine CallX.inst ?_ | (with_reducible refine And.intro ?_ ?_) | exact True.intro)
    · rw [if_neg hh] at hq
      subst hq
      simp only at hF
      have hh1 : ¬ how = 1 := by have := hnh.of; simp only at this; omega
      rw [if_neg hh1] at hF
      subst hF
      repeat' (first | simp only [seval, evx, beq_self_eq_true, sb, ew, insA, encIns, ins_dec, ins_eta, evs_eq, encEv_def, List.map_cons, List.map_nil, *] | simp (disch := omega) only [if_pos, if_neg] | refine R.seq ?_ | refine LCB.text ?_ | refine LCB.quiet rfl ?_ | refine R.anyX ?_ | refine R.block ?_ | refine LCB.skip ?_ | refine LCB.exit ?_ | refine LCB.ret ?_ | ((first | refine RetOk.val hcl ?_ | refine Weak.at hcl ?_); simp only [seval, evw, List.forall_mem_cons, List.forall_mem_map, List.forall_mem_append, List.not_mem_nil, sb, ew, insA, encIns, ins_dec, ins_eta, evs_eq, encEv_def, List.map_cons, List.map_nil, *]) | ((first | refine LCB.cond (by simp only [seval, evx] <;> rfl) ?_ ?_ | refine wpG_split (by simp only [seval, evx] <;> rfl) ?_ ?_ | refine wxG_split (by simp only [seval, evx] <;> rfl) ?_ ?_) <;> (intro hc; try simp only [seval, nf] at hc)) | refine ACalls.inst ?_ | refine CallX.inst ?_ | (with_reducible refine And.intro ?_ ?_) | exact True.intro)
      first | refine ACalls.pure (hnum.of) ?_ | refine CallP.pure (hnum.of) rfl ?_ | refine CallX.pure (hnum.of) ?_
      repeat' (first | simp only [seval, evx, beq_self_eq_true, sb, ew, insA, encIns, ins_dec, ins_eta, evs_eq, encEv_def, List.map_cons, List.map_nil, *] | simp (disch := omega) only [if_pos, if_neg] | refine R.seq ?_ | refine LCB.text ?_ | refine LCB.quiet rfl ?_ | refine R.anyX ?_ | refine R.block ?_ | refine LCB.skip ?_ | refine LCB.exit ?_ | refine LCB.ret ?_ | ((first | refine RetOk.val hcl ?_ | refine Weak.at hcl ?_); simp only [seval, evw, List.forall_mem_cons, List.forall_mem_map, List.forall_mem_append, List.not_mem_nil, sb, ew, insA, encIns, ins_dec, ins_eta, evs_eq, encEv_def, List.map_cons, List.map_nil, *]) | ((first | refine LCB.cond (by simp only [seval, evx] <;> rfl) ?_ ?_ | refine wpG_split (by simp only [seval, evx] <;> rfl) ?_ ?_ | refine wxG_split (by simp only [seval, evx] <;> rfl) ?_ ?_) <;> (intro hc; try simp only [seval, nf] at hc)) | refine ACalls.inst ?_ | refine CallX.inst ?_ | (with_reducible refine And.intro ?_ ?_) | exact True.intro)
end Go.Proofs.YtbkbehkjndmabaaDoor

/-
  An instruction's text, read: one field.
-/
namespace Go.Proofs.YtbkbehkjndmabaaDoor
open Go.RowKit
set_option linter.unusedVariables false
set_option linter.unusedSimpArgs false

def setField (x : Ins) (c : UInt8) (v : Int) : Ins := if c = 78 then { x with n := v } else if c = 84 then { x with to := v } else if c = 68 ∨ c = 100 then { x with d := v } else if c = 65 ∨ c = 97 then { x with a := v } else { x with b := v }
def fillV (c : UInt8) (w : List UInt8) : Option Int := if c = 78 ∨ c = 84 then numOf w else locOf w

theorem encIns_set {x : Ins} {c : UInt8} {v : Int} (h1 : c ≠ 78) (h2 : c ≠ 84) : (encIns x).take (offOf (c.toNat : Int)) ++ [.int .i64 v] ++ (encIns x).drop (offOf (c.toNat : Int) + 1) = encIns (setField x c v) := by
  unfold setField
  rw [if_neg h1, if_neg h2]
  have e (k : UInt8) : ((c.toNat : Int) = (k.toNat : Int)) ↔ c = k := ⟨fun h => UInt8.toNat_inj.1 (by omega), fun h => by rw [h]⟩
  have e1 := e 68
  have e2 := e 100
  have e3 := e 65
  have e4 := e 97
  have t1 : ((68 : UInt8).toNat : Int) = 68 := rfl
  have t2 : ((100 : UInt8).toNat : Int) = 100 := rfl
  have t3 : ((65 : UInt8).toNat : Int) = 65 := rfl
  have t4 : ((97 : UInt8).toNat : Int) = 97 := rfl
  rw [t1] at e1; rw [t2] at e2; rw [t3] at e3; rw [t4] at e4
  unfold offOf
  simp only [e1, e2, e3, e4]
  split
  · simp [encIns]
  · split <;> simp [encIns]

theorem ins_fill_ok {H : List AObj} {k : Nat} {x : Ins} (c : UInt8) (w : List UInt8) (hw : w.length ≤ 1000000) (hk : k < H.length) (hx : H[k]? = some (.vec 6 [encIns x])) :
    ACalls Tryd.prog 67 [.ptr k 1 0 0, .int .i32 (c.toNat : Int), .str (bs w)] H fun r H' => r = .int .i64 (if (fillV c w).isSome then 0 else 2) ∧ H' = H.set k (.vec 6 [encIns (setField x c ((fillV c w).getD 0))]) := by
  refine ACalls.go ins_fill.low (by simp) fun hcl => ?_
  have g1 : ∀ L : List AObj, (H ++ L)[k]? = some (.vec 6 [encIns x]) := fun L => by rw [in_get hk, hx]
  have g2 : ∀ (L : List AObj) (o : AObj), (H ++ L).set k o = H.set k o ++ L := fun L o => in_set hk
  have g3 : ∀ y : Ins, Clean (H.set k (.vec 6 [encIns y])).length (H.set k (.vec 6 [encIns y])) := fun y => by rw [List.length_set]; exact hcl.set (vec_clean (by simp [encIns, cleanAll, AV.clean]))
  have g4 : ∀ o : AObj, H.length ≤ (H.set k o).length := fun o => by simp
  clear hx
  by_cases h78 : c = 78
  · subst h78
    have e3 : ((UInt8.toNat 78 : Nat) : Int) = 78 := rfl
    have hp := num_Parse_ok w (by omega)
    have hf : fillV 78 w = numOf w := rfl
    have hs : ∀ v, setField x 78 v = { x with n := v } := fun v => rfl
    rw [hf, hs]
    unfold numP at hp
    generalize numOf w = r at *
    replace hp := Hold.mk hp
    replace g3 := Hold.mk g3
    replace g4 := Hold.mk g4
    repeat' (first | simp only [seval, evo, beq_self_eq_true, encB_def, encS_def, sb, insA, encIns, ins_dec, ins_eta, *] | simp (disch := omega) only [if_pos, if_neg] | refine R.seq ?_ | refine LCB.text ?_ | refine LCB.quiet rfl ?_ | refine R.calls rfl ?_ | refine R.block ?_ | refine LCB.skip ?_ | refine LCB.exit ?_ | refine LCB.ret ?_ | ((first | refine RetOk.val hcl ?_ | refine Weak.at hcl ?_); simp only [seval, evw, List.forall_mem_cons, List.forall_mem_map, List.forall_mem_append, List.not_mem_nil, encB_def, encS_def, sb, insA, encIns, ins_dec, ins_eta, *]) | ((first | refine LCB.cond (by simp only [seval, evo] <;> rfl) ?_ ?_ | refine wpG_split (by simp only [seval, evo] <;> rfl) ?_ ?_ | refine wqG_split (by simp only [seval, evo] <;> rfl) ?_ ?_) <;> (intro hc; try simp only [seval, nf] at hc)) | refine ACalls.inst ?_ | refine CallP.inst rfl ?_)
    refine ACalls.pure hp.of ?_
    repeat' (first | simp only [seval, evo, beq_self_eq_true, encB_def, encS_def, sb, insA, encIns, ins_dec, ins_eta, *] | simp (disch := omega) only [if_pos, if_neg] | refine R.seq ?_ | refine LCB.text ?_ | refine LCB.quiet rfl ?_ | refine R.calls rfl ?_ | refine R.block ?_ | refine LCB.skip ?_ | refine LCB.exit ?_ | refine LCB.ret ?_ | ((first | refine RetOk.val hcl ?_ | refine Weak.at hcl ?_); simp only [seval, evw, List.forall_mem_cons, List.forall_mem_map, List.forall_mem_append, List.not_mem_nil, encB_def, encS_def, sb, insA, encIns, ins_dec, ins_eta, *]) | ((first | refine LCB.cond (by simp only [seval, evo] <;> rfl) ?_ ?_ | refine wpG_split (by simp only [seval, evo] <;> rfl) ?_ ?_ | refine wqG_split (by simp only [seval, evo] <;> rfl) ?_ ?_) <;> (intro hc; try simp only [seval, nf] at hc)) | refine ACalls.inst ?_ | refine CallP.inst rfl ?_)
    refine RetOk.upd (.int .i64 (if r.isSome = true then 0 else 2)) (g4.of _) (g3.of { x with n := r.getD 0 }) ?_ ⟨rfl, rfl⟩
    simp only [seval, evw, List.forall_mem_cons, List.forall_mem_map, List.forall_mem_append, List.not_mem_nil, encB_def, encS_def, sb, insA, encIns, ins_dec, ins_eta, *]
  have n78 : ¬ ((c.toNat : Int) = 78) := fun e => h78 (UInt8.toNat_inj.1 (by have : (78 : UInt8).toNat = 78 := rfl; omega))
  by_cases h84 : c = 84
  · subst h84
    have e3 : ((UInt8.toNat 84 : Nat) : Int) = 84 := rfl
    have hp := num_Parse_ok w (by omega)
    have hf : fillV 84 w = numOf w := rfl
    have hs : ∀ v, setField x 84 v = { x with to := v } := fun v => rfl
    have h64 : in64 ((numOf w).getD 0) := by
      cases h : numOf w with
      | none => exact ⟨by simp, by simp⟩
      | some n => exact (numOf_iff.1 h).1
    have hwr := wrap64 h64
    rw [hf, hs]
    unfold numP at hp
    generalize numOf w = r at *
    replace hp := Hold.mk hp
    replace g3 := Hold.mk g3
    replace g4 := Hold.mk g4
    clear n78
    repeat' (first | simp only [seval, evo, beq_self_eq_true, encB_def, encS_def, sb, insA, encIns, ins_dec, ins_eta, *] | simp (disch := omega) only [if_pos, if_neg] | refine R.seq ?_ | refine LCB.text ?_ | refine LCB.quiet rfl ?_ | refine R.calls rfl ?_ | refine R.block ?_ | refine LCB.skip ?_ | refine LCB.exit ?_ | refine LCB.ret ?_ | ((first | refine RetOk.val hcl ?_ | refine Weak.at hcl ?_); simp only [seval, evw, List.forall_mem_cons, List.forall_mem_map, List.forall_mem_append, List.not_mem_nil, encB_def, encS_def, sb, insA, encIns, ins_dec, ins_eta, *]) | ((first | refine LCB.cond (by simp only [seval, evo] <;> rfl) ?_ ?_ | refine wpG_split (by simp only [seval, evo] <;> rfl) ?_ ?_ | refine wqG_split (by simp only [seval, evo] <;> rfl) ?_ ?_) <;> (intro hc; try simp only [seval, nf] at hc)) | refine ACalls.inst ?_ | refine CallP.inst rfl ?_)
    refine ACalls.pure hp.of ?_
    repeat' (first | simp only [seval, evo, beq_self_eq_true, encB_def, encS_def, sb, insA, encIns, ins_dec, ins_eta, *] | simp (disch := omega) only [if_pos, if_neg] | refine R.seq ?_ | refine LCB.text ?_ | refine LCB.quiet rfl ?_ | refine R.calls rfl ?_ | refine R.block ?_ | refine LCB.skip ?_ | refine LCB.exit ?_ | refine LCB.ret ?_ | ((first | refine RetOk.val hcl ?_ | refine Weak.at hcl ?_); simp only [seval, evw, List.forall_mem_cons, List.forall_mem_map, List.forall_mem_append, List.not_mem_nil, encB_def, encS_def, sb, insA, encIns, ins_dec, ins_eta, *]) | ((first | refine LCB.cond (by simp only [seval, evo] <;> rfl) ?_ ?_ | refine wpG_split (by simp only [seval, evo] <;> rfl) ?_ ?_ | refine wqG_split (by simp only [seval, evo] <;> rfl) ?_ ?_) <;> (intro hc; try simp only [seval, nf] at hc)) | refine ACalls.inst ?_ | refine CallP.inst rfl ?_)
    refine RetOk.upd (.int .i64 (if r.isSome = true then 0 else 2)) (g4.of _) (g3.of { x with to := r.getD 0 }) ?_ ⟨rfl, rfl⟩
    simp only [seval, evw, List.forall_mem_cons, List.forall_mem_map, List.forall_mem_append, List.not_mem_nil, encB_def, encS_def, sb, insA, encIns, ins_dec, ins_eta, *]
  have n84 : ¬ ((c.toNat : Int) = 84) := fun e => h84 (UInt8.toNat_inj.1 (by have : (84 : UInt8).toNat = 84 := rfl; omega))
  have hp := loc_Parse_ok w (by omega)
  have hf : fillV c w = locOf w := by unfold fillV; rw [if_neg (by rintro (h | h); exact h78 h; exact h84 h)]
  rw [hf]
  unfold locP at hp
  generalize locOf w = r at *
  have hset := encIns_set (x := x) (v := r.getD 0) h78 h84
  have hof : offOf (c.toNat : Int) + 1 ≤ 6 := by unfold offOf; split; omega; split <;> omega
  have hcl0 := vec_clean (m := H.length) (sz := 6) (xs := [encIns (setField x c (r.getD 0))]) (by simp [encIns, cleanAll, AV.clean])
  generalize encIns (setField x c (r.getD 0)) = E at *
  replace hp := Hold.mk hp
  replace g3 := Hold.mk g3
  replace g4 := Hold.mk g4
  replace hcl0 := Hold.mk hcl0
  rw [show encIns x = [.int .i64 x.op, .int .i64 x.d, .int .i64 x.a, .int .i64 x.b, .int .i64 x.n, .int .i64 x.to] from rfl] at *
  simp only [List.drop_succ_cons] at hset
  repeat' (first | simp only [seval, evo, beq_self_eq_true, encB_def, encS_def, sb, insA, encIns, ins_dec, ins_eta, *] | simp (disch := omega) only [if_pos, if_neg] | refine R.seq ?_ | refine LCB.text ?_ | refine LCB.quiet rfl ?_ | refine R.calls rfl ?_ | refine R.block ?_ | refine LCB.skip ?_ | refine LCB.exit ?_ | refine LCB.ret ?_ | ((first | refine RetOk.val hcl ?_ | refine Weak.at hcl ?_); simp only [seval, evw, List.forall_mem_cons, List.forall_mem_map, List.forall_mem_append, List.not_mem_nil, encB_def, encS_def, sb, insA, encIns, ins_dec, ins_eta, *]) | ((first | refine LCB.cond (by simp only [seval, evo] <;> rfl) ?_ ?_ | refine wpG_split (by simp only [seval, evo] <;> rfl) ?_ ?_ | refine wqG_split (by simp only [seval, evo] <;> rfl) ?_ ?_) <;> (intro hc; try simp only [seval, nf] at hc)) | refine ACalls.inst ?_ | refine CallP.inst rfl ?_)
  refine ACalls.pure hp.of ?_
  repeat' (first | simp only [seval, evo, beq_self_eq_true, encB_def, encS_def, sb, insA, encIns, ins_dec, ins_eta, *] | simp (disch := omega) only [if_pos, if_neg] | refine R.seq ?_ | refine LCB.text ?_ | refine LCB.quiet rfl ?_ | refine R.calls rfl ?_ | refine R.block ?_ | refine LCB.skip ?_ | refine LCB.exit ?_ | refine LCB.ret ?_ | ((first | refine RetOk.val hcl ?_ | refine Weak.at hcl ?_); simp only [seval, evw, List.forall_mem_cons, List.forall_mem_map, List.forall_mem_append, List.not_mem_nil, encB_def, encS_def, sb, insA, encIns, ins_dec, ins_eta, *]) | ((first | refine LCB.cond (by simp only [seval, evo] <;> rfl) ?_ ?_ | refine wpG_split (by simp only [seval, evo] <;> rfl) ?_ ?_ | refine wqG_split (by simp only [seval, evo] <;> rfl) ?_ ?_) <;> (intro hc; try simp only [seval, nf] at hc)) | refine ACalls.inst ?_ | refine CallP.inst rfl ?_)
  refine (ins_field_ok (c.toNat : Int) (by rw [List.length_append]; omega)).mono ?_
  rintro r' H' ⟨rfl, rfl⟩
  repeat' (first | simp only [seval, evo, beq_self_eq_true, encB_def, encS_def, sb, insA, encIns, ins_dec, ins_eta, *] | simp (disch := omega) only [if_pos, if_neg] | refine R.seq ?_ | refine LCB.text ?_ | refine LCB.quiet rfl ?_ | refine R.calls rfl ?_ | refine R.block ?_ | refine LCB.skip ?_ | refine LCB.exit ?_ | refine LCB.ret ?_ | ((first | refine RetOk.val hcl ?_ | refine Weak.at hcl ?_); simp only [seval, evw, List.forall_mem_cons, List.forall_mem_map, List.forall_mem_append, List.not_mem_nil, encB_def, encS_def, sb, insA, encIns, ins_dec, ins_eta, *]) | ((first | refine LCB.cond (by simp only [seval, evo] <;> rfl) ?_ ?_ | refine wpG_split (by simp only [seval, evo] <;> rfl) ?_ ?_ | refine wqG_split (by simp only [seval, evo] <;> rfl) ?_ ?_) <;> (intro hc; try simp only [seval, nf] at hc)) | refine ACalls.inst ?_ | refine CallP.inst rfl ?_)
  refine RetOk.upd (.int .i64 (if r.isSome = true then 0 else 2)) (g4.of _) (by rw [List.length_set]; exact hcl.set hcl0.of) ?_ ⟨rfl, rfl⟩
  simp only [seval, evw, List.forall_mem_cons, List.forall_mem_map, List.forall_mem_append, List.not_mem_nil, encB_def, encS_def, sb, insA, encIns, ins_dec, ins_eta, *]
end Go.Proofs.YtbkbehkjndmabaaDoor

/-
  An instruction's text, read.
-/
namespace Go.Proofs.YtbkbehkjndmabaaDoor
open Go.RowKit
set_option linter.unusedVariables false
set_option linter.unusedSimpArgs false

def matchOp (w : List (List UInt8)) (i : Nat) : Bool := decide (wordL ((i + 1 : Nat) : Int) = w.headD []) && decide ((fieldL ((i + 1 : Nat) : Int)).length + 1 = w.length)
def fillAll : Ins → List UInt8 → List (List UInt8) → Option Ins
  | x, [], _ => some x
  | x, c :: fs, w :: ws => match fillV c w with
    | some v => fillAll (setField x c v) fs ws
    | none => none
  | _, _ :: _, [] => none
def parseAt (w : List (List UInt8)) (i : Nat) : Option Ins := match fillAll { noIns with op := ((i + 1 : Nat) : Int) } (fieldL ((i + 1 : Nat) : Int)) w.tail with
  | some x => if chk x 200 = 0 then some x else none
  | none => none
/-- The instruction of a text's words. -/
def parseW (w : List (List UInt8)) : Option Ins := match (List.range 18).find? (matchOp w) with
  | some i => parseAt w i
  | none => none
def parseIns (s : List UInt8) : Option Ins := parseW (splitSp s)
def insR (r : Option Ins) : AV := match r with
  | some x => .tup [insA x, .int .i64 0]
  | none => .tup [insA noIns, .int .i64 2]

theorem find_range {f : Nat → Bool} : ∀ {n i : Nat}, i < n → f i = true → (∀ j, j < i → f j = false) → (List.range n).find? f = some i := by
  intro n i hi hf hj
  rw [List.find?_range_eq_some]
  exact ⟨hf, by simpa using hi, fun j h => by simp [hj j h]⟩
theorem find_range_none {f : Nat → Bool} {n : Nat} (h : ∀ j, j < n → f j = false) : (List.range n).find? f = none := by
  rw [List.find?_eq_none]
  intro j hj
  simp at hj
  simp [h j hj]

theorem setField_op (x : Ins) (c : UInt8) (v : Int) : (setField x c v).op = x.op := by
  unfold setField
  split; rfl
  split; rfl
  split; rfl
  split <;> rfl

theorem splitSp_word : ∀ (l : List UInt8) (w : List UInt8), w ∈ splitSp l → w.length ≤ l.length
  | [], w, h => by simp [splitSp] at h; simp [h]
  | c :: r, w, h => by
    rw [splitSp] at h
    split at h
    · rcases List.mem_cons.1 h with rfl | h
      · simp
      · have := splitSp_word r w h; simp; omega
    · cases hr : splitSp r with
      | nil => exact absurd hr (splitSp_ne r)
      | cons v vs =>
        rw [hr] at h
        rcases List.mem_cons.1 h with rfl | h
        · have := splitSp_word r v (by rw [hr]; simp); simp; omega
        · have := splitSp_word r w (by rw [hr]; simp [h]); simp; omega

theorem getD_map {W : List (List UInt8)} {j : Nat} (h : j < W.length) : (W.map encS).getD j [] = [.str (bs (W.getD j []))] := by
  simp [List.getD, h, encS]

set_option maxHeartbeats 2000000 in
theorem ins_Parse_ok (s : List UInt8) (hs : s.length ≤ 1000000) : Pure Tryd.prog 54 [.str (bs s)] (insR (parseIns s)) := by
  intro H
  refine ACalls.go ins_Parse.low (by simp) fun hcl => ?_
  have hww := ins_words_ok s hs
  (refine R.seq ?_; refine LCB.text ?_; repeat' (first | simp only [seval, evo, beq_self_eq_true, encB_def, encS_def, sb, insA, encIns, ins_dec, ins_eta, noIns, *] | simp (disch := omega) only [if_pos, if_neg]))
  refine R.seq (LCB.text ?_)
  repeat' (first | simp only [seval, evo, beq_self_eq_true, encB_def, encS_def, sb, insA, encIns, ins_dec, ins_eta, noIns, *] | simp (disch := omega) only [if_pos, if_neg])
  refine ACalls.pure hww ?_
  clear hww
  have hW0 := splitSp_ne s
  have hWl := splitSp_len s
  have hWs : ∀ w ∈ splitSp s, w.length ≤ 1000000 := fun w hw => by have := splitSp_word s w hw; omega
  have hsp : parseIns s = parseW (splitSp s) := rfl
  rw [hsp]
  generalize splitSp s = W at *
  have hW1 : 0 < W.length := by
    cases W with
    | nil => exact absurd rfl hW0
    | cons a b => simp
  obtain ⟨row, htb, hl36, htk, hcr, hrow⟩ := shape_tbl
  replace hW0 := Hold.mk hW0
  replace hWs := Hold.mk hWs
  replace hrow := Hold.mk hrow
  replace hsp := Hold.mk hsp
  repeat' (first | simp only [seval, evo, beq_self_eq_true, encB_def, encS_def, sb, insA, encIns, ins_dec, ins_eta, noIns, *] | simp (disch := omega) only [if_pos, if_neg] | refine R.seq ?_ | refine LCB.text ?_ | refine LCB.quiet rfl ?_ | refine R.calls rfl ?_ | refine R.block ?_ | refine LCB.skip ?_ | refine LCB.exit ?_ | refine LCB.ret ?_ | ((first | refine RetOk.val hcl ?_ | refine Weak.at hcl ?_); simp only [seval, evw, List.forall_mem_cons, List.forall_mem_map, List.forall_mem_append, List.not_mem_nil, encB_def, encS_def, sb, insA, encIns, ins_dec, ins_eta, noIns, *]) | ((first | refine LCB.cond (by simp only [seval, evo] <;> rfl) ?_ ?_ | refine wpG_split (by simp only [seval, evo] <;> rfl) ?_ ?_ | refine wqG_split (by simp only [seval, evo] <;> rfl) ?_ ?_) <;> (intro hc; try simp only [seval, nf] at hc)) | refine ACalls.inst ?_ | refine CallP.inst rfl ?_)
  clear htb
  refine R.loop (S := Nat) ⟨fun i => [(2, .ptr H.length 1 0 0), (4, .list (W.map encS)), (13, .agg row), (14, .int .i64 (i : Int))], fun i => H ++ [.vec 6 [encIns noIns]], fun i => i ≤ 18 ∧ ∀ j, j < i → matchOp W j = false, fun i => 18 - i⟩ 0 ⟨Nat.zero_le _, fun j hj => by omega⟩ (Weak.at hcl ?_) ?_
  · simp only [seval, evw, List.forall_mem_cons, List.forall_mem_map, List.forall_mem_append, List.not_mem_nil, encB_def, encS_def, sb, insA, encIns, ins_dec, ins_eta, noIns, *]
  rintro i ⟨hi, hj⟩
  simp only at hi hj ⊢
  replace hj := Hold.mk hj
  by_cases hlt : ¬ i < 18
  · have : i = 18 := by omega
    subst this
    have : insR (parseW W) = .tup [insA noIns, .int .i64 2] := by unfold parseW; rw [find_range_none hj.of]; rfl
    repeat' (first | simp only [seval, evo, beq_self_eq_true, encB_def, encS_def, sb, insA, encIns, ins_dec, ins_eta, noIns, *] | simp (disch := omega) only [if_pos, if_neg] | refine R.seq ?_ | refine LCB.text ?_ | refine LCB.quiet rfl ?_ | refine R.calls rfl ?_ | refine R.block ?_ | refine LCB.skip ?_ | refine LCB.exit ?_ | refine LCB.ret ?_ | ((first | refine RetOk.val hcl ?_ | refine Weak.at hcl ?_); simp only [seval, evw, List.forall_mem_cons, List.forall_mem_map, List.forall_mem_append, List.not_mem_nil, encB_def, encS_def, sb, insA, encIns, ins_dec, ins_eta, noIns, *]) | ((first | refine LCB.cond (by simp only [seval, evo] <;> rfl) ?_ ?_ | refine wpG_split (by simp only [seval, evo] <;> rfl) ?_ ?_ | refine wqG_split (by simp only [seval, evo] <;> rfl) ?_ ?_) <;> (intro hc; try simp only [seval, nf] at hc)) | refine ACalls.inst ?_ | refine CallP.inst rfl ?_)
  replace hlt : i < 18 := by omega
  have e1 : (i : Int) < 18 := by omega
  have e2 : IntKind.i64.wrap ((i : Int) + 1) = ((i + 1 : Nat) : Int) := by rw [IntKind.wrap_i64]; omega
  have e2' : IntKind.i64.wrap (1 + (i : Int)) = ((i + 1 : Nat) : Int) := by rw [IntKind.wrap_i64]; omega
  have hr := hrow.of i hlt
  have hg0 := getD_map hW1
  have hm : Hold (matchOp W i = (decide (wordL ((i + 1 : Nat) : Int) = W.getD 0 []) && decide ((fieldL ((i + 1 : Nat) : Int)).length + 1 = W.length))) := ⟨by unfold matchOp; cases W <;> rfl⟩
  have hpa : Hold (parseAt W i = match fillAll { noIns with op := ((i + 1 : Nat) : Int) } (fieldL ((i + 1 : Nat) : Int)) W.tail with | some x => if chk x 200 = 0 then some x else none | none => none) := ⟨rfl⟩
  obtain ⟨_, hF3, hFa⟩ := shape_short ((i + 1 : Nat) : Int)
  replace hFa := Hold.mk hFa
  have e5 : IntKind.i64.wrap ((W.length : Int) - 1) = ((W.length - 1 : Nat) : Int) := by rw [IntKind.wrap_i64]; omega
  generalize wordL ((i + 1 : Nat) : Int) = wd at *
  generalize fieldL ((i + 1 : Nat) : Int) = F at *
  have e6 : i * 2 + 2 ≤ 36 := by omega
  have e7 : (i : Int) < ((18 : Nat) : Int) := by omega
  cases hmt : matchOp W i with
  | false =>
    have hjn : ∀ j, j < i + 1 → matchOp W j = false := fun j hj1 => by
      rcases Nat.lt_or_ge j i with h | h
      · exact hj.of j h
      · have : j = i := by omega
        subst this; exact hmt
    have hdw := hm.of
    rw [hmt] at hdw
    replace hjn := Hold.mk hjn
    replace hmt := Hold.mk hmt
    by_cases hwd : wd = W.getD 0 []
    · rw [decide_eq_true hwd, Bool.true_and] at hdw
      have hne : ¬ ((F.length : Nat) : Int) = ((W.length - 1 : Nat) : Int) := fun e => by
        have := of_decide_eq_false hdw.symm
        omega
      replace hdw := Hold.mk hdw
      repeat' (first | simp only [seval, evo, beq_self_eq_true, encB_def, encS_def, sb, insA, encIns, ins_dec, ins_eta, noIns, *] | simp (disch := omega) only [if_pos, if_neg] | refine R.seq ?_ | refine LCB.text ?_ | refine LCB.quiet rfl ?_ | refine R.calls rfl ?_ | refine R.block ?_ | refine LCB.skip ?_ | refine LCB.exit ?_ | refine LCB.ret ?_ | ((first | refine RetOk.val hcl ?_ | refine Weak.at hcl ?_); simp only [seval, evw, List.forall_mem_cons, List.forall_mem_map, List.forall_mem_append, List.not_mem_nil, encB_def, encS_def, sb, insA, encIns, ins_dec, ins_eta, noIns, *]) | ((first | refine LCB.cond (by simp only [seval, evo] <;> rfl) ?_ ?_ | refine wpG_split (by simp only [seval, evo] <;> rfl) ?_ ?_ | refine wqG_split (by simp only [seval, evo] <;> rfl) ?_ ?_) <;> (intro hc; try simp only [seval, nf] at hc)) | refine ACalls.inst ?_ | refine CallP.inst rfl ?_)
      refine ⟨i + 1, ⟨hlt, hjn.of⟩, by simp only; omega, Weak.at hcl ?_⟩
      simp only [seval, evw, List.forall_mem_cons, List.forall_mem_map, List.forall_mem_append, List.not_mem_nil, encB_def, encS_def, sb, insA, encIns, ins_dec, ins_eta, noIns, *]
    · replace hdw := Hold.mk hdw
      repeat' (first | simp only [seval, evo, beq_self_eq_true, encB_def, encS_def, sb, insA, encIns, ins_dec, ins_eta, noIns, *] | simp (disch := omega) only [if_pos, if_neg] | refine R.seq ?_ | refine LCB.text ?_ | refine LCB.quiet rfl ?_ | refine R.calls rfl ?_ | refine R.block ?_ | refine LCB.skip ?_ | refine LCB.exit ?_ | refine LCB.ret ?_ | ((first | refine RetOk.val hcl ?_ | refine Weak.at hcl ?_); simp only [seval, evw, List.forall_mem_cons, List.forall_mem_map, List.forall_mem_append, List.not_mem_nil, encB_def, encS_def, sb, insA, encIns, ins_dec, ins_eta, noIns, *]) | ((first | refine LCB.cond (by simp only [seval, evo] <;> rfl) ?_ ?_ | refine wpG_split (by simp only [seval, evo] <;> rfl) ?_ ?_ | refine wqG_split (by simp only [seval, evo] <;> rfl) ?_ ?_) <;> (intro hc; try simp only [seval, nf] at hc)) | refine ACalls.inst ?_ | refine CallP.inst rfl ?_)
      refine ⟨i + 1, ⟨hlt, hjn.of⟩, by simp only; omega, Weak.at hcl ?_⟩
      simp only [seval, evw, List.forall_mem_cons, List.forall_mem_map, List.forall_mem_append, List.not_mem_nil, encB_def, encS_def, sb, insA, encIns, ins_dec, ins_eta, noIns, *]
  | true =>
    have hdw := hm.of
    rw [hmt] at hdw
    replace hdw := hdw.symm
    simp only [Bool.and_eq_true, decide_eq_true_eq] at hdw
    obtain ⟨hwd, hFl⟩ := hdw
    subst hwd
    have hres : Hold (parseW W = parseAt W i) := ⟨by unfold parseW; rw [find_range hlt hmt hj.of]⟩
    replace hmt := Hold.mk hmt
    have heq : ((F.length : Nat) : Int) = ((W.length - 1 : Nat) : Int) := by omega
    have hF1 : F.length = W.length - 1 := by omega
    replace hFl := Hold.mk hFl
    clear heq
    repeat' (first | simp only [seval, evo, beq_self_eq_true, encB_def, encS_def, sb, insA, encIns, ins_dec, ins_eta, noIns, *] | simp (disch := omega) only [if_pos, if_neg] | refine R.seq ?_ | refine LCB.text ?_ | refine LCB.quiet rfl ?_ | refine R.calls rfl ?_ | refine R.block ?_ | refine LCB.skip ?_ | refine LCB.exit ?_ | refine LCB.ret ?_ | ((first | refine RetOk.val hcl ?_ | refine Weak.at hcl ?_); simp only [seval, evw, List.forall_mem_cons, List.forall_mem_map, List.forall_mem_append, List.not_mem_nil, encB_def, encS_def, sb, insA, encIns, ins_dec, ins_eta, noIns, *]) | ((first | refine LCB.cond (by simp only [seval, evo] <;> rfl) ?_ ?_ | refine wpG_split (by simp only [seval, evo] <;> rfl) ?_ ?_ | refine wqG_split (by simp only [seval, evo] <;> rfl) ?_ ?_) <;> (intro hc; try simp only [seval, nf] at hc)) | refine ACalls.inst ?_ | refine CallP.inst rfl ?_)
    refine R.loop (S := Nat × Ins) ⟨fun y => [(2, .ptr H.length 1 0 0), (4, .list (W.map encS)), (7, .ptr (H.length + 2) 1 0 0), (38, .iter (H.length + 3))], fun y => H ++ [.vec 6 [encIns noIns], .vec 2 [[.str (bs (W.getD 0 [])), .str (bs F)]], .vec 6 [encIns y.2], .iter (bs F) y.1],
      fun y => y.1 ≤ F.length ∧ y.2.op = ((i + 1 : Nat) : Int) ∧ fillAll y.2 (F.drop y.1) (W.drop (y.1 + 1)) = fillAll { noIns with op := ((i + 1 : Nat) : Int) } F W.tail, fun y => F.length - y.1⟩ (0, { noIns with op := ((i + 1 : Nat) : Int) }) ⟨Nat.zero_le _, rfl, by simp⟩ (Weak.at hcl ?_) ?_
    · simp only [seval, evw, List.forall_mem_cons, List.forall_mem_map, List.forall_mem_append, List.not_mem_nil, encB_def, encS_def, sb, insA, encIns, ins_dec, ins_eta, noIns, *]
    rintro ⟨p, x⟩ ⟨hp, hxo, hq⟩
    simp only at hp hxo hq ⊢
    replace hq := Hold.mk hq
    replace hxo := Hold.mk hxo
    replace hF1 := Hold.mk hF1
    by_cases hlt2 : p < F.length
    · have hmem : F.getD p 0 ∈ F := by simp [List.getD, hlt2]
      have hd := dec_near (l := F) (p := p) (hFa.of _ hmem)
      have hdr := drop_at hlt2
      have hwp : p + 1 < W.length := by have := hF1.of; omega
      have hgp := getD_map hwp
      have hdw2 : W.drop (p + 1) = W.getD (p + 1) [] :: W.drop (p + 2) := by
        rw [List.drop_eq_getElem_cons hwp]
        simp [List.getD, hwp]
      have hq2 := hq.of
      rw [hdr, hdw2] at hq2
      replace hq2 := Hold.mk hq2
      have e8 : IntKind.i64.wrap ((p : Int) + 1) = ((p + 1 : Nat) : Int) := by rw [IntKind.wrap_i64]; omega
      have hwm : W.getD (p + 1) [] ∈ W := by simp [List.getD, hwp]
      have hwlen := hWs.of _ hwm
      clear hdr hdw2 hmem hwm hg0
      generalize F.getD p 0 = c at *
      generalize W.getD (p + 1) [] = wnx at *
      repeat' (first | simp only [seval, evo, beq_self_eq_true, encB_def, encS_def, sb, insA, encIns, ins_dec, ins_eta, noIns, *] | simp (disch := omega) only [if_pos, if_neg] | refine R.seq ?_ | refine LCB.text ?_ | refine LCB.quiet rfl ?_ | refine R.calls rfl ?_ | refine R.block ?_ | refine LCB.skip ?_ | refine LCB.exit ?_ | refine LCB.ret ?_ | ((first | refine RetOk.val hcl ?_ | refine Weak.at hcl ?_); simp only [seval, evw, List.forall_mem_cons, List.forall_mem_map, List.forall_mem_append, List.not_mem_nil, encB_def, encS_def, sb, insA, encIns, ins_dec, ins_eta, noIns, *]) | ((first | refine LCB.cond (by simp only [seval, evo] <;> rfl) ?_ ?_ | refine wpG_split (by simp only [seval, evo] <;> rfl) ?_ ?_ | refine wqG_split (by simp only [seval, evo] <;> rfl) ?_ ?_) <;> (intro hc; try simp only [seval, nf] at hc)) | refine ACalls.inst ?_ | refine CallP.inst rfl ?_)
      refine (ins_fill_ok (x := x) c wnx hwlen (by simp) (by simp only [seval, evo, beq_self_eq_true, encB_def, encS_def, sb, insA, encIns, ins_dec, ins_eta, noIns, *])).mono ?_
      rintro r' H' ⟨rfl, rfl⟩
      cases hv : fillV c wnx with
      | some v =>
        have hs1 : (some v).isSome = true := rfl
        have hs2 : (some v).getD 0 = v := rfl
        have hq3 := hq2.of
        rw [fillAll, hv] at hq3
        replace hq3 := Hold.mk hq3
        repeat' (first | simp only [seval, evo, beq_self_eq_true, encB_def, encS_def, sb, insA, encIns, ins_dec, ins_eta, noIns, *] | simp (disch := omega) only [if_pos, if_neg] | refine R.seq ?_ | refine LCB.text ?_ | refine LCB.quiet rfl ?_ | refine R.calls rfl ?_ | refine R.block ?_ | refine LCB.skip ?_ | refine LCB.exit ?_ | refine LCB.ret ?_ | ((first | refine RetOk.val hcl ?_ | refine Weak.at hcl ?_); simp only [seval, evw, List.forall_mem_cons, List.forall_mem_map, List.forall_mem_append, List.not_mem_nil, encB_def, encS_def, sb, insA, encIns, ins_dec, ins_eta, noIns, *]) | ((first | refine LCB.cond (by simp only [seval, evo] <;> rfl) ?_ ?_ | refine wpG_split (by simp only [seval, evo] <;> rfl) ?_ ?_ | refine wqG_split (by simp only [seval, evo] <;> rfl) ?_ ?_) <;> (intro hc; try simp only [seval, nf] at hc)) | refine ACalls.inst ?_ | refine CallP.inst rfl ?_)
        refine ⟨(p + 1, setField x c v), ⟨hlt2, by simp only; rw [setField_op]; exact hxo.of, hq3.of⟩, by simp only; omega, Weak.at hcl ?_⟩
        simp only [seval, evw, List.forall_mem_cons, List.forall_mem_map, List.forall_mem_append, List.not_mem_nil, encB_def, encS_def, sb, insA, encIns, ins_dec, ins_eta, noIns, *]
      | none =>
        have hs1 : (none : Option Int).isSome = false := rfl
        have hs2 : (none : Option Int).getD 0 = 0 := rfl
        have hq3 := hq2.of
        rw [fillAll, hv] at hq3
        have hfin : insR (parseW W) = .tup [insA noIns, .int .i64 2] := by
          rw [hres.of, hpa.of, ← hq3]; rfl
        clear hq3
        repeat' (first | simp only [seval, evo, beq_self_eq_true, encB_def, encS_def, sb, insA, encIns, ins_dec, ins_eta, noIns, *] | simp (disch := omega) only [if_pos, if_neg] | refine R.seq ?_ | refine LCB.text ?_ | refine LCB.quiet rfl ?_ | refine R.calls rfl ?_ | refine R.block ?_ | refine LCB.skip ?_ | refine LCB.exit ?_ | refine LCB.ret ?_ | ((first | refine RetOk.val hcl ?_ | refine Weak.at hcl ?_); simp only [seval, evw, List.forall_mem_cons, List.forall_mem_map, List.forall_mem_append, List.not_mem_nil, encB_def, encS_def, sb, insA, encIns, ins_dec, ins_eta, noIns, *]) | ((first | refine LCB.cond (by simp only [seval, evo] <;> rfl) ?_ ?_ | refine wpG_split (by simp only [seval, evo] <;> rfl) ?_ ?_ | refine wqG_split (by simp only [seval, evo] <;> rfl) ?_ ?_) <;> (intro hc; try simp only [seval, nf] at hc)) | refine ACalls.inst ?_ | refine CallP.inst rfl ?_)
    · have hp' : p = F.length := by omega
      subst hp'
      have hq2 := hq.of
      rw [List.drop_length, fillAll] at hq2
      have hx : Hold (parseW W = if chk x 200 = 0 then some x else none) := ⟨by rw [hres.of, hpa.of, ← hq2]⟩
      clear hq2
      have hck := ins_Check_ok x 200
      rw [insA_eq] at hck
      replace hck := Hold.mk hck
      repeat' (first | simp only [seval, evo, beq_self_eq_true, encB_def, encS_def, sb, insA, encIns, ins_dec, ins_eta, noIns, *] | simp (disch := omega) only [if_pos, if_neg] | refine R.seq ?_ | refine LCB.text ?_ | refine LCB.quiet rfl ?_ | refine R.calls rfl ?_ | refine R.block ?_ | refine LCB.skip ?_ | refine LCB.exit ?_ | refine LCB.ret ?_ | ((first | refine RetOk.val hcl ?_ | refine Weak.at hcl ?_); simp only [seval, evw, List.forall_mem_cons, List.forall_mem_map, List.forall_mem_append, List.not_mem_nil, encB_def, encS_def, sb, insA, encIns, ins_dec, ins_eta, noIns, *]) | ((first | refine LCB.cond (by simp only [seval, evo] <;> rfl) ?_ ?_ | refine wpG_split (by simp only [seval, evo] <;> rfl) ?_ ?_ | refine wqG_split (by simp only [seval, evo] <;> rfl) ?_ ?_) <;> (intro hc; try simp only [seval, nf] at hc)) | refine ACalls.inst ?_ | refine CallP.inst rfl ?_)
      refine ACalls.pure hck.of ?_
      by_cases hk : chk x 200 = 0
      · have hfin : insR (parseW W) = .tup [insA x, .int .i64 0] := by rw [hx.of, if_pos hk]; rfl
        repeat' (first | simp only [seval, evo, beq_self_eq_true, encB_def, encS_def, sb, insA, encIns, ins_dec, ins_eta, noIns, *] | simp (disch := omega) only [if_pos, if_neg] | refine R.seq ?_ | refine LCB.text ?_ | refine LCB.quiet rfl ?_ | refine R.calls rfl ?_ | refine R.block ?_ | refine LCB.skip ?_ | refine LCB.exit ?_ | refine LCB.ret ?_ | ((first | refine RetOk.val hcl ?_ | refine Weak.at hcl ?_); simp only [seval, evw, List.forall_mem_cons, List.forall_mem_map, List.forall_mem_append, List.not_mem_nil, encB_def, encS_def, sb, insA, encIns, ins_dec, ins_eta, noIns, *]) | ((first | refine LCB.cond (by simp only [seval, evo] <;> rfl) ?_ ?_ | refine wpG_split (by simp only [seval, evo] <;> rfl) ?_ ?_ | refine wqG_split (by simp only [seval, evo] <;> rfl) ?_ ?_) <;> (intro hc; try simp only [seval, nf] at hc)) | refine ACalls.inst ?_ | refine CallP.inst rfl ?_)
      · have hfin : insR (parseW W) = .tup [insA noIns, .int .i64 2] := by rw [hx.of, if_neg hk]; rfl
        repeat' (first | simp only [seval, evo, beq_self_eq_true, encB_def, encS_def, sb, insA, encIns, ins_dec, ins_eta, noIns, *] | simp (disch := omega) only [if_pos, if_neg] | refine R.seq ?_ | refine LCB.text ?_ | refine LCB.quiet rfl ?_ | refine R.calls rfl ?_ | refine R.block ?_ | refine LCB.skip ?_ | refine LCB.exit ?_ | refine LCB.ret ?_ | ((first | refine RetOk.val hcl ?_ | refine Weak.at hcl ?_); simp only [seval, evw, List.forall_mem_cons, List.forall_mem_map, List.forall_mem_append, List.not_mem_nil, encB_def, encS_def, sb, insA, encIns, ins_dec, ins_eta, noIns, *]) | ((first | refine LCB.cond (by simp only [seval, evo] <;> rfl) ?_ ?_ | refine wpG_split (by simp only [seval, evo] <;> rfl) ?_ ?_ | refine wqG_split (by simp only [seval, evo] <;> rfl) ?_ ?_) <;> (intro hc; try simp only [seval, nf] at hc)) | refine ACalls.inst ?_ | refine CallP.inst rfl ?_)
end Go.Proofs.YtbkbehkjndmabaaDoor

/-
  asm: one line of a text (a closure that fills its caller's lists).
-/
namespace Go.Proofs.YtbkbehkjndmabaaDoor
open Go.RowKit
set_option linter.unusedVariables false
set_option linter.unusedSimpArgs false

def encN (n : Nat) : List AV := [.int .i64 (n : Int)]
theorem encN_def {n : Nat} : encN n = [.int .i64 (n : Int)] := rfl
def insOr (r : Option Ins) : Ins := r.getD noIns
theorem insR_eq (r : Option Ins) : insR r = .tup [insA (insOr r), .int .i64 (if r.isSome then 0 else 2)] := by cases r <;> rfl
theorem RetOk.upd0 {B : Nat} {t : Tm} {G : List AObj} {rs : List LRes} {QF : AV → List AObj → Prop} (r : AV) (hB : B ≤ G.length) (hcl : Clean G.length G) (h : match resE ⟨t, G⟩ rs with | some l => View G G.length (resV l) r | none => False) (hq : QF r G) : RetOk B rs QF ⟨t, G⟩ := by
  have := RetOk.upd (L := []) (t := t) (rs := rs) r hB hcl (by rwa [List.append_nil]) hq
  rwa [List.append_nil] at this
/-- What asm.Parse has in memory. -/
def lineH (h : Nat) (s : List UInt8) (fr : Nat) (rows : List Ins) (bg : List Nat) (p : Nat) : List AObj :=
  [.vec 1 [[.str (bs s)]], .vec 1 [[.sl 6 (h + 5) rows.length 0 rows.length]], .vec 1 [[.sl 1 (h + 6) bg.length 0 bg.length]], .vec 1 [[.int .i64 (fr : Int)]], .iter (bs s) p, .vec 6 (rows.map encIns), .vec 1 (bg.map encN)]
theorem lineH_eq {h : Nat} {s : List UInt8} {fr : Nat} {rows : List Ins} {bg : List Nat} {p : Nat} : lineH h s fr rows bg p = [.vec 1 [[.str (bs s)]], .vec 1 [[.sl 6 (h + 5) rows.length 0 rows.length]], .vec 1 [[.sl 1 (h + 6) bg.length 0 bg.length]], .vec 1 [[.int .i64 (fr : Int)]], .iter (bs s) p, .vec 6 (rows.map encIns), .vec 1 (bg.map encN)] := rfl

set_option maxHeartbeats 4000000 in
theorem asm_line_ok {G : List AObj} (hG : Clean G.length G) (s : List UInt8) (fr to : Nat) (rows : List Ins) (bg : List Nat) (p : Nat) (h1 : fr ≤ to) (h2 : to ≤ s.length) (hs : s.length ≤ 1000000) (hr : rows.length ≤ 1000000) (hb : bg.length ≤ 1000000) :
    ACalls Tryd.prog 53 [.int .i64 (to : Int), .ptr G.length 1 0 0, .ptr (G.length + 3) 1 0 0, .ptr (G.length + 1) 1 0 0, .ptr (G.length + 2) 1 0 0] (G ++ lineH G.length s fr rows bg p)
      fun r H' => r = .bool (parseIns ((s.take to).drop fr)).isSome ∧ H' = G ++ lineH G.length s fr (rows ++ [insOr (parseIns ((s.take to).drop fr))]) (bg ++ [fr]) p := by
  refine ACalls.go asm_Parse_1.low (by simp) fun hcl => ?_
  have hp := ins_Parse_ok ((s.take to).drop fr) (by simp; omega)
  rw [insR_eq] at hp
  generalize parseIns ((s.take to).drop fr) = r at *
  have e1 : (fr : Int) ≤ (to : Int) := by omega
  have e2 : (to : Int) ≤ (s.length : Int) := by omega
  generalize insOr r = x at *
  replace hp := Hold.mk hp
  (refine R.seq ?_; refine LCB.text ?_; repeat' (first | simp only [seval, evo, beq_self_eq_true, encB_def, encN_def, sb, insA, encIns, ins_dec, ins_eta, lineH_eq, List.length_append, CallA_fn2, *] | simp (disch := omega) only [if_pos, if_neg]))
  refine R.cut [(2, .ptr (G.length + 3) 1 0 0), (3, .ptr (G.length + 1) 1 0 0), (4, .ptr (G.length + 2) 1 0 0), (7, .ptr (G.length + 7) 1 0 0), (8, .int .i64 (if r.isSome = true then 0 else 2))] (G ++ (lineH G.length s fr rows bg p ++ [.vec 6 [encIns x]])) ?_ ?_
  · repeat' (first | simp only [seval, evo, beq_self_eq_true, encB_def, encN_def, sb, insA, encIns, ins_dec, ins_eta, lineH_eq, List.length_append, CallA_fn2, *] | simp (disch := omega) only [if_pos, if_neg] | refine R.seq ?_ | refine LCB.text ?_ | refine LCB.quiet rfl ?_ | refine R.calls rfl ?_ | refine R.block ?_ | refine LCB.skip ?_ | refine LCB.exit ?_ | refine LCB.ret ?_ | ((first | refine RetOk.val hcl ?_ | refine Weak.at hcl ?_); simp only [seval, evw, List.forall_mem_cons, List.forall_mem_map, List.forall_mem_append, List.not_mem_nil, encB_def, encN_def, sb, insA, encIns, ins_dec, ins_eta, lineH_eq, List.length_append, CallA_fn2, *]) | ((first | refine LCB.cond (by simp only [seval, evo] <;> rfl) ?_ ?_ | refine wpG_split (by simp only [seval, evo] <;> rfl) ?_ ?_ | refine wqG_split (by simp only [seval, evo] <;> rfl) ?_ ?_) <;> (intro hc; try simp only [seval, nf] at hc)) | refine ACalls.inst ?_ | refine CallP.inst rfl ?_)
    first | refine ACalls.pure (hp.of) ?_ | refine CallP.pure (hp.of) rfl ?_ | refine CallX.pure (hp.of) ?_
    repeat' (first | simp only [seval, evo, beq_self_eq_true, encB_def, encN_def, sb, insA, encIns, ins_dec, ins_eta, lineH_eq, List.length_append, CallA_fn2, *] | simp (disch := omega) only [if_pos, if_neg] | refine R.seq ?_ | refine LCB.text ?_ | refine LCB.quiet rfl ?_ | refine R.calls rfl ?_ | refine R.block ?_ | refine LCB.skip ?_ | refine LCB.exit ?_ | refine LCB.ret ?_ | ((first | refine RetOk.val hcl ?_ | refine Weak.at hcl ?_); simp only [seval, evw, List.forall_mem_cons, List.forall_mem_map, List.forall_mem_append, List.not_mem_nil, encB_def, encN_def, sb, insA, encIns, ins_dec, ins_eta, lineH_eq, List.length_append, CallA_fn2, *]) | ((first | refine LCB.cond (by simp only [seval, evo] <;> rfl) ?_ ?_ | refine wpG_split (by simp only [seval, evo] <;> rfl) ?_ ?_ | refine wqG_split (by simp only [seval, evo] <;> rfl) ?_ ?_) <;> (intro hc; try simp only [seval, nf] at hc)) | refine ACalls.inst ?_ | refine CallP.inst rfl ?_)
    refine Weak.at hG ?_
    simp only [seval, evw, List.forall_mem_cons, List.forall_mem_map, List.forall_mem_append, List.not_mem_nil, encB_def, encN_def, sb, insA, encIns, ins_dec, ins_eta, lineH_eq, List.length_append, CallA_fn2, *]
  have b1 : (rows.length + 1) * 48 ≤ 140737488355328 := by omega
  have b2 : rows.length ≤ 9223372036854775806 := by omega
  have b3 : (bg.length + 1) * 8 ≤ 140737488355328 := by omega
  have b4 : bg.length ≤ 9223372036854775806 := by omega
  refine R.cut [(8, .int .i64 (if r.isSome = true then 0 else 2))] (G ++ lineH G.length s fr (rows ++ [x]) (bg ++ [fr]) p) ?_ ?_
  · refine LCB.any ?_
    simp (maxSteps := 100000000) only [wpP, wpPs, wpT_none, pureStep, seval, ev1, ev2, ev3, ev4, encB_def, encN_def, sb, insA, encIns, ins_dec, ins_eta, lineH_eq, List.length_append, CallA_fn2, *]
    repeat' (first | constructor | (refine Weak.at hG ?_; simp only [seval, evw, List.forall_mem_cons, List.forall_mem_map, List.forall_mem_append, List.not_mem_nil, encB_def, encN_def, sb, insA, encIns, ins_dec, ins_eta, lineH_eq, List.length_append, CallA_fn2, *]))
  repeat' (first | simp only [seval, evo, beq_self_eq_true, encB_def, encN_def, sb, insA, encIns, ins_dec, ins_eta, lineH_eq, List.length_append, CallA_fn2, *] | simp (disch := omega) only [if_pos, if_neg] | refine R.seq ?_ | refine LCB.text ?_ | refine LCB.quiet rfl ?_ | refine R.calls rfl ?_ | refine R.block ?_ | refine LCB.skip ?_ | refine LCB.exit ?_ | refine LCB.ret ?_ | ((first | refine RetOk.val hcl ?_ | refine Weak.at hcl ?_); simp only [seval, evw, List.forall_mem_cons, List.forall_mem_map, List.forall_mem_append, List.not_mem_nil, encB_def, encN_def, sb, insA, encIns, ins_dec, ins_eta, lineH_eq, List.length_append, CallA_fn2, *]) | ((first | refine LCB.cond (by simp only [seval, evo] <;> rfl) ?_ ?_ | refine wpG_split (by simp only [seval, evo] <;> rfl) ?_ ?_ | refine wqG_split (by simp only [seval, evo] <;> rfl) ?_ ?_) <;> (intro hc; try simp only [seval, nf] at hc)) | refine ACalls.inst ?_ | refine CallP.inst rfl ?_)
  refine RetOk.upd0 (.bool r.isSome) ?_ ?_ ?_ ?_
  · simp only [seval, evw, List.forall_mem_cons, List.forall_mem_map, List.forall_mem_append, List.not_mem_nil, encB_def, encN_def, sb, insA, encIns, ins_dec, ins_eta, lineH_eq, List.length_append, CallA_fn2, *]
  · rw [List.length_append]
    refine (hG.le (by omega)).app ?_
    simp only [seval, evw, List.forall_mem_cons, List.forall_mem_map, List.forall_mem_append, List.not_mem_nil, encB_def, encN_def, sb, insA, encIns, ins_dec, ins_eta, lineH_eq, List.length_append, CallA_fn2, *]
  · cases r <;> (simp only [seval, evw, List.forall_mem_cons, List.forall_mem_map, List.forall_mem_append, List.not_mem_nil, encB_def, encN_def, sb, insA, encIns, ins_dec, ins_eta, lineH_eq, List.length_append, CallA_fn2, *]; rfl)
  · simp only [seval, evw, List.forall_mem_cons, List.forall_mem_map, List.forall_mem_append, List.not_mem_nil, encB_def, encN_def, sb, insA, encIns, ins_dec, ins_eta, lineH_eq, List.length_append, CallA_fn2, *]
end Go.Proofs.YtbkbehkjndmabaaDoor
/-
  asm: a function's text, read.
-/
namespace Go.Proofs.YtbkbehkjndmabaaDoor
open Go.RowKit
set_option linter.unusedVariables false
set_option linter.unusedSimpArgs false

/-- What a text's lines are: its instructions, and where they begin; or where the first wrong line begins. -/
def scan : Nat → List UInt8 → List UInt8 → List Ins → List Nat → Except Nat (List Ins × List Nat)
  | fr, cur, [], f, bg => if cur.length = 0 then .ok (f, bg) else .error fr
  | fr, cur, c :: r, f, bg => if c = 10 then match parseIns cur with
      | some x => scan (fr + cur.length + 1) [] r (f ++ [x]) (bg ++ [fr])
      | none => .error fr
    else scan fr (cur ++ [c]) r f bg
def fnParse (s : List UInt8) : List Ins × Int × Int := if 20000 < s.length then ([], 0, 3) else match scan 0 [] s [] [] with
  | .error fr => ([], (fr : Int), 2)
  | .ok (f, bg) => if (fnChk f).2 = 0 then (f, 0, 0) else ([], (if (fnChk f).1.toNat < bg.length then ((bg.getD (fnChk f).1.toNat 0 : Nat) : Int) else (fnChk f).1), (fnChk f).2)
def fnR (q : List Ins × Int × Int) : AV := .tup [encFn q.1, .int .i64 q.2.1, .int .i64 q.2.2]

theorem scan_skip {s : List UInt8} {fr : Nat} {f : List Ins} {bg : List Nat} : ∀ (w p : Nat), fr ≤ p → p + w ≤ s.length → (∀ q, p ≤ q → q < p + w → s.getD q 0 ≠ 10) → scan fr ((s.take p).drop fr) (s.drop p) f bg = scan fr ((s.take (p + w)).drop fr) (s.drop (p + w)) f bg
  | 0, p, _, _, _ => rfl
  | w + 1, p, ha, hp, hq => by
    rw [drop_at (show p < s.length by omega), scan, if_neg (hq p (Nat.le_refl _) (by omega))]
    have e : (s.take p).drop fr ++ [s.getD p 0] = (s.take (p + 1)).drop fr := by
      rw [take_all (by omega), List.drop_append_of_le_length (by simp; omega)]
    rw [e, scan_skip w (p + 1) (by omega) (by omega) (fun q h1 h2 => hq q (by omega) (by omega)), Nat.add_right_comm, Nat.add_assoc]
theorem fnChk_at (f : List Ins) : ∃ k : Nat, (fnChk f).1 = (k : Int) ∧ k ≤ 200 := by
  by_cases h1 : 200 < f.length
  · exact ⟨0, by rw [fnChk_full h1]; rfl, by omega⟩
  · by_cases h2 : f.length = 0
    · exact ⟨0, by rw [fnChk_nil h2]; rfl, by omega⟩
    · cases hb : badAt (f.length : Int) 0 f with
      | some q =>
        obtain ⟨i, e⟩ := q
        have := (badAt_some _ _ _ _ hb).2.2
        exact ⟨i, by rw [fnChk_bad h1 h2 hb], by omega⟩
      | none =>
        rw [fnChk_good h1 h2 hb]
        split
        · exact ⟨0, rfl, by omega⟩
        · exact ⟨f.length - 1, rfl, by omega⟩
theorem getD_encN {l : List Nat} {j : Nat} (h : j < l.length) : (l.map encN).getD j [] = [.int .i64 ((l.getD j 0 : Nat) : Int)] := by
  simp [List.getD, h, encN]

set_option maxHeartbeats 4000000 in
theorem asm_Parse_ok (s : List UInt8) (hs : s.length ≤ maxLen) : Pure Tryd.prog 40 [.str (bs s)] (fnR (fnParse s)) := by
  intro H
  refine ACalls.go asm_Parse.low (by simp) fun hcl => ?_
  by_cases hbig : 20000 < s.length
  · have e1 : (20000 : Int) < (s.length : Int) := by omega
    have hr : fnR (fnParse s) = .tup [.list [], .int .i64 0, .int .i64 3] := by unfold fnParse; rw [if_pos hbig]; rfl
    repeat' (first | simp only [seval, evo, beq_self_eq_true, encB_def, encN_def, sb, insA, encIns, ins_dec, ins_eta, lineH_eq, List.length_append, CallA_fn2, *] | simp (disch := omega) only [if_pos, if_neg] | refine R.seq ?_ | refine LCB.text ?_ | refine LCB.quiet rfl ?_ | refine R.calls rfl ?_ | refine R.block ?_ | refine LCB.skip ?_ | refine LCB.exit ?_ | refine LCB.ret ?_ | ((first | refine RetOk.val hcl ?_ | refine Weak.at hcl ?_); simp only [seval, evw, List.forall_mem_cons, List.forall_mem_map, List.forall_mem_append, List.not_mem_nil, encB_def, encN_def, sb, insA, encIns, ins_dec, ins_eta, lineH_eq, List.length_append, CallA_fn2, *]) | ((first | refine LCB.cond (by simp only [seval, evo] <;> rfl) ?_ ?_ | refine wpG_split (by simp only [seval, evo] <;> rfl) ?_ ?_ | refine wqG_split (by simp only [seval, evo] <;> rfl) ?_ ?_) <;> (intro hc; try simp only [seval, nf] at hc)) | refine ACalls.inst ?_ | refine CallP.inst rfl ?_)
  have e1 : ¬ (20000 : Int) < (s.length : Int) := by omega
  have hR : Hold (fnParse s = match scan 0 [] s [] [] with
    | .error fr => ([], (fr : Int), 2)
    | .ok (f, bg) => if (fnChk f).2 = 0 then (f, 0, 0) else ([], (if (fnChk f).1.toNat < bg.length then ((bg.getD (fnChk f).1.toNat 0 : Nat) : Int) else (fnChk f).1), (fnChk f).2)) := ⟨by unfold fnParse; rw [if_neg hbig]⟩
  generalize fnParse s = PR at *
  generalize hsc : scan 0 [] s [] [] = SC at *
  replace hsc := Hold.mk hsc
  replace hbig := Hold.mk hbig
  repeat' (first | simp only [seval, evo, beq_self_eq_true, encB_def, encN_def, sb, insA, encIns, ins_dec, ins_eta, lineH_eq, List.length_append, CallA_fn2, *] | simp (disch := omega) only [if_pos, if_neg] | refine R.seq ?_ | refine LCB.text ?_ | refine LCB.quiet rfl ?_ | refine R.calls rfl ?_ | refine R.block ?_ | refine LCB.skip ?_ | refine LCB.exit ?_ | refine LCB.ret ?_ | ((first | refine RetOk.val hcl ?_ | refine Weak.at hcl ?_); simp only [seval, evw, List.forall_mem_cons, List.forall_mem_map, List.forall_mem_append, List.not_mem_nil, encB_def, encN_def, sb, insA, encIns, ins_dec, ins_eta, lineH_eq, List.length_append, CallA_fn2, *]) | ((first | refine LCB.cond (by simp only [seval, evo] <;> rfl) ?_ ?_ | refine wpG_split (by simp only [seval, evo] <;> rfl) ?_ ?_ | refine wqG_split (by simp only [seval, evo] <;> rfl) ?_ ?_) <;> (intro hc; try simp only [seval, nf] at hc)) | refine ACalls.inst ?_ | refine CallP.inst rfl ?_)
  refine R.loop (S := Nat × Nat × List Ins × List Nat) ⟨fun y => [(1, .ptr H.length 1 0 0), (5, .ptr (H.length + 1) 1 0 0), (6, .ptr (H.length + 2) 1 0 0), (7, .ptr (H.length + 3) 1 0 0), (8, .fn (.func 53) [] [.ptr H.length 1 0 0, .ptr (H.length + 3) 1 0 0, .ptr (H.length + 1) 1 0 0, .ptr (H.length + 2) 1 0 0]), (18, .iter (H.length + 4))], fun y => H ++ lineH H.length s y.2.1 y.2.2.1 y.2.2.2 y.1,
    fun y => y.1 ≤ s.length ∧ y.2.1 ≤ y.1 ∧ y.2.2.1.length ≤ y.1 ∧ y.2.2.2.length ≤ y.1 ∧ scan y.2.1 ((s.take y.1).drop y.2.1) (s.drop y.1) y.2.2.1 y.2.2.2 = SC, fun y => s.length - y.1⟩ (0, 0, [], []) ⟨Nat.zero_le _, Nat.zero_le _, Nat.zero_le _, Nat.zero_le _, by rw [← hsc.of]; simp⟩
    ((Weak.growCellAt 1 6 (by omega) rfl).trans ((Weak.growCellAt 2 1 (by omega) rfl).trans (Weak.at hcl ?_))) ?_
  · simp only [seval, evw, List.forall_mem_cons, List.forall_mem_map, List.forall_mem_append, List.not_mem_nil, encB_def, encN_def, sb, insA, encIns, ins_dec, ins_eta, lineH_eq, List.length_append, CallA_fn2, *]
  rintro ⟨p, fr, f, bg⟩ ⟨hp, hfr, hfl, hbl, hq⟩
  simp only at hp hfr hfl hbl hq ⊢
  have hs2 : s.length ≤ 20000 := by have := hbig.of; omega
  replace hq := Hold.mk hq
  by_cases hlt : p < s.length
  · obtain ⟨r, w, hd, h1, h2, h3⟩ := dec_step hlt
    have e2 : IntKind.i64.wrap ((p : Int) + 1) = ((p + 1 : Nat) : Int) := by rw [IntKind.wrap_i64]; omega
    replace h3 := Hold.mk h3
    by_cases h10 : r = 10
    · subst h10
      have h3 := (h3.of.resolve_right (by omega))
      obtain ⟨h4, rfl, _⟩ := h3
      have hc10 : s.getD p 0 = 10 := UInt8.toNat_inj.1 (by rw [← h4]; rfl)
      have hq2 := hq.of
      rw [drop_at hlt, scan, if_pos hc10] at hq2
      have hlen : fr + ((s.take p).drop fr).length + 1 = p + 1 := by simp; omega
      rw [hlen] at hq2
      clear hlen
      have e3 : (((10 : Nat) : Int)) = 10 := rfl
      have hline := Hold.mk (asm_line_ok hcl s fr p f bg (p + 1) hfr hp (by omega) (by omega) (by omega))
      replace h4 := Hold.mk h4
      generalize (s.take p).drop fr = cur at *
      cases hpi : parseIns cur with
      | some x =>
        rw [hpi] at hq2 hline
        simp only at hq2
        have hx1 : insOr (some x) = x := rfl
        have hx2 : (some x).isSome = true := rfl
        replace hq2 := Hold.mk hq2
        replace hpi := Hold.mk hpi
        repeat' (first | simp only [seval, evo, beq_self_eq_true, encB_def, encN_def, sb, insA, encIns, ins_dec, ins_eta, lineH_eq, List.length_append, CallA_fn2, *] | simp (disch := omega) only [if_pos, if_neg] | refine R.seq ?_ | refine LCB.text ?_ | refine LCB.quiet rfl ?_ | refine R.calls rfl ?_ | refine R.block ?_ | refine LCB.skip ?_ | refine LCB.exit ?_ | refine LCB.ret ?_ | ((first | refine RetOk.val hcl ?_ | refine Weak.at hcl ?_); simp only [seval, evw, List.forall_mem_cons, List.forall_mem_map, List.forall_mem_append, List.not_mem_nil, encB_def, encN_def, sb, insA, encIns, ins_dec, ins_eta, lineH_eq, List.length_append, CallA_fn2, *]) | ((first | refine LCB.cond (by simp only [seval, evo] <;> rfl) ?_ ?_ | refine wpG_split (by simp only [seval, evo] <;> rfl) ?_ ?_ | refine wqG_split (by simp only [seval, evo] <;> rfl) ?_ ?_) <;> (intro hc; try simp only [seval, nf] at hc)) | refine ACalls.inst ?_ | refine CallP.inst rfl ?_)
        simp only [lineH_eq] at hline
        refine hline.of.mono ?_
        rintro r' H' ⟨rfl, rfl⟩
        repeat' (first | simp only [seval, evo, beq_self_eq_true, encB_def, encN_def, sb, insA, encIns, ins_dec, ins_eta, lineH_eq, List.length_append, CallA_fn2, *] | simp (disch := omega) only [if_pos, if_neg] | refine R.seq ?_ | refine LCB.text ?_ | refine LCB.quiet rfl ?_ | refine R.calls rfl ?_ | refine R.block ?_ | refine LCB.skip ?_ | refine LCB.exit ?_ | refine LCB.ret ?_ | ((first | refine RetOk.val hcl ?_ | refine Weak.at hcl ?_); simp only [seval, evw, List.forall_mem_cons, List.forall_mem_map, List.forall_mem_append, List.not_mem_nil, encB_def, encN_def, sb, insA, encIns, ins_dec, ins_eta, lineH_eq, List.length_append, CallA_fn2, *]) | ((first | refine LCB.cond (by simp only [seval, evo] <;> rfl) ?_ ?_ | refine wpG_split (by simp only [seval, evo] <;> rfl) ?_ ?_ | refine wqG_split (by simp only [seval, evo] <;> rfl) ?_ ?_) <;> (intro hc; try simp only [seval, nf] at hc)) | refine ACalls.inst ?_ | refine CallP.inst rfl ?_)
        refine ⟨(p + 1, p + 1, f ++ [x], bg ++ [fr]), ⟨h2, Nat.le_refl _, by simp only [List.length_append, List.length_cons, List.length_nil]; omega, by simp only [List.length_append, List.length_cons, List.length_nil]; omega, ?_⟩, by simp only; omega, Weak.at hcl ?_⟩
        · simp only
          rw [← hq2.of]
          simp
        · simp only [seval, evw, List.forall_mem_cons, List.forall_mem_map, List.forall_mem_append, List.not_mem_nil, encB_def, encN_def, sb, insA, encIns, ins_dec, ins_eta, lineH_eq, List.length_append, CallA_fn2, *]
      | none =>
        rw [hpi] at hq2 hline
        have hx2 : (none : Option Ins).isSome = false := rfl
        have hres : fnR PR = .tup [.list [], .int .i64 (fr : Int), .int .i64 2] := by rw [hR.of, ← hq2]; rfl
        replace hq2 := Hold.mk hq2
        replace hpi := Hold.mk hpi
        repeat' (first | simp only [seval, evo, beq_self_eq_true, encB_def, encN_def, sb, insA, encIns, ins_dec, ins_eta, lineH_eq, List.length_append, CallA_fn2, *] | simp (disch := omega) only [if_pos, if_neg] | refine R.seq ?_ | refine LCB.text ?_ | refine LCB.quiet rfl ?_ | refine R.calls rfl ?_ | refine R.block ?_ | refine LCB.skip ?_ | refine LCB.exit ?_ | refine LCB.ret ?_ | ((first | refine RetOk.val hcl ?_ | refine Weak.at hcl ?_); simp only [seval, evw, List.forall_mem_cons, List.forall_mem_map, List.forall_mem_append, List.not_mem_nil, encB_def, encN_def, sb, insA, encIns, ins_dec, ins_eta, lineH_eq, List.length_append, CallA_fn2, *]) | ((first | refine LCB.cond (by simp only [seval, evo] <;> rfl) ?_ ?_ | refine wpG_split (by simp only [seval, evo] <;> rfl) ?_ ?_ | refine wqG_split (by simp only [seval, evo] <;> rfl) ?_ ?_) <;> (intro hc; try simp only [seval, nf] at hc)) | refine ACalls.inst ?_ | refine CallP.inst rfl ?_)
        simp only [lineH_eq] at hline
        refine hline.of.mono ?_
        rintro r' H' ⟨rfl, rfl⟩
        repeat' (first | simp only [seval, evo, beq_self_eq_true, encB_def, encN_def, sb, insA, encIns, ins_dec, ins_eta, lineH_eq, List.length_append, CallA_fn2, *] | simp (disch := omega) only [if_pos, if_neg] | refine R.seq ?_ | refine LCB.text ?_ | refine LCB.quiet rfl ?_ | refine R.calls rfl ?_ | refine R.block ?_ | refine LCB.skip ?_ | refine LCB.exit ?_ | refine LCB.ret ?_ | ((first | refine RetOk.val hcl ?_ | refine Weak.at hcl ?_); simp only [seval, evw, List.forall_mem_cons, List.forall_mem_map, List.forall_mem_append, List.not_mem_nil, encB_def, encN_def, sb, insA, encIns, ins_dec, ins_eta, lineH_eq, List.length_append, CallA_fn2, *]) | ((first | refine LCB.cond (by simp only [seval, evo] <;> rfl) ?_ ?_ | refine wpG_split (by simp only [seval, evo] <;> rfl) ?_ ?_ | refine wqG_split (by simp only [seval, evo] <;> rfl) ?_ ?_) <;> (intro hc; try simp only [seval, nf] at hc)) | refine ACalls.inst ?_ | refine CallP.inst rfl ?_)
    · have e3 : ¬ (r : Int) = 10 := by omega
      replace h10 := Hold.mk h10
      have hx := Hold.mk (scan_skip (s := s) (fr := fr) (f := f) (bg := bg) w p hfr h2 (fun q g1 g2 g3 => by
        rcases h3.of with ⟨h4, h5, _⟩ | ⟨h4, h5⟩
        · have : q = p := by omega
          subst this
          rw [g3] at h4
          exact h10.of h4
        · have := h5 q g1 g2
          rw [g3] at this
          exact absurd this (by decide)))
      repeat' (first | simp only [seval, evo, beq_self_eq_true, encB_def, encN_def, sb, insA, encIns, ins_dec, ins_eta, lineH_eq, List.length_append, CallA_fn2, *] | simp (disch := omega) only [if_pos, if_neg] | refine R.seq ?_ | refine LCB.text ?_ | refine LCB.quiet rfl ?_ | refine R.calls rfl ?_ | refine R.block ?_ | refine LCB.skip ?_ | refine LCB.exit ?_ | refine LCB.ret ?_ | ((first | refine RetOk.val hcl ?_ | refine Weak.at hcl ?_); simp only [seval, evw, List.forall_mem_cons, List.forall_mem_map, List.forall_mem_append, List.not_mem_nil, encB_def, encN_def, sb, insA, encIns, ins_dec, ins_eta, lineH_eq, List.length_append, CallA_fn2, *]) | ((first | refine LCB.cond (by simp only [seval, evo] <;> rfl) ?_ ?_ | refine wpG_split (by simp only [seval, evo] <;> rfl) ?_ ?_ | refine wqG_split (by simp only [seval, evo] <;> rfl) ?_ ?_) <;> (intro hc; try simp only [seval, nf] at hc)) | refine ACalls.inst ?_ | refine CallP.inst rfl ?_)
      refine ⟨(p + w, fr, f, bg), ⟨h2, by simp only; omega, by simp only; omega, by simp only; omega, ?_⟩, by simp only; omega, Weak.at hcl ?_⟩
      · simp only
        rw [← hq.of, hx.of]
      · simp only [seval, evw, List.forall_mem_cons, List.forall_mem_map, List.forall_mem_append, List.not_mem_nil, encB_def, encN_def, sb, insA, encIns, ins_dec, ins_eta, lineH_eq, List.length_append, CallA_fn2, *]
  · have hp' : p = s.length := by omega
    subst hp'
    refine LCB.pre (Weak.viewH (sl := [(1, .ptr H.length 1 0 0), (5, .ptr (H.length + 1) 1 0 0), (6, .ptr (H.length + 2) 1 0 0), (7, .ptr (H.length + 3) 1 0 0), (18, .iter (H.length + 4))])
      (L' := [.vec 1 [[.str (bs s)]], .vec 1 [[.list (f.map encIns)]], .vec 1 [[.list (bg.map encN)]], .vec 1 [[.int .i64 (fr : Int)]], .iter (bs s) s.length]) hcl (by simp) (by simp [lineH]) ?_ ?_) ?_
    · intro i o q g1 g2
      match i with
      | 0 => simp [lineH] at g1 g2; subst g1; subst g2; exact .same (by simp only [seval, evw, List.forall_mem_cons, List.forall_mem_map, List.forall_mem_append, List.not_mem_nil, encB_def, encN_def, sb, insA, encIns, ins_dec, ins_eta, lineH_eq, List.length_append, CallA_fn2, *])
      | 1 => simp [lineH] at g1 g2; subst g1; subst g2; exact .cell (by simp only [seval, evw, List.forall_mem_cons, List.forall_mem_map, List.forall_mem_append, List.not_mem_nil, encB_def, encN_def, sb, insA, encIns, ins_dec, ins_eta, lineH_eq, List.length_append, CallA_fn2, *])
      | 2 => simp [lineH] at g1 g2; subst g1; subst g2; exact .cell (by simp only [seval, evw, List.forall_mem_cons, List.forall_mem_map, List.forall_mem_append, List.not_mem_nil, encB_def, encN_def, sb, insA, encIns, ins_dec, ins_eta, lineH_eq, List.length_append, CallA_fn2, *])
      | 3 => simp [lineH] at g1 g2; subst g1; subst g2; exact .same (by simp only [seval, evw, List.forall_mem_cons, List.forall_mem_map, List.forall_mem_append, List.not_mem_nil, encB_def, encN_def, sb, insA, encIns, ins_dec, ins_eta, lineH_eq, List.length_append, CallA_fn2, *])
      | 4 => simp [lineH] at g1 g2; subst g1; subst g2; exact .same (by simp only [seval, evw, List.forall_mem_cons, List.forall_mem_map, List.forall_mem_append, List.not_mem_nil, encB_def, encN_def, sb, insA, encIns, ins_dec, ins_eta, lineH_eq, List.length_append, CallA_fn2, *])
      | n + 5 => simp at g2
    · simp only [seval, evw, List.forall_mem_cons, List.forall_mem_map, List.forall_mem_append, List.not_mem_nil, encB_def, encN_def, sb, insA, encIns, ins_dec, ins_eta, lineH_eq, List.length_append, CallA_fn2, *]
    have hq2 := hq.of
    rw [List.drop_length, List.take_length, scan] at hq2
    by_cases hend : fr < s.length
    · rw [if_neg (by simp; omega)] at hq2
      have e5 : (fr : Int) < (s.length : Int) := by omega
      have hres : fnR PR = .tup [.list [], .int .i64 (fr : Int), .int .i64 2] := by rw [hR.of, ← hq2]; rfl
      replace hq2 := Hold.mk hq2
      repeat' (first | simp only [seval, evo, beq_self_eq_true, encB_def, encN_def, sb, insA, encIns, ins_dec, ins_eta, lineH_eq, List.length_append, CallA_fn2, *] | simp (disch := omega) only [if_pos, if_neg] | refine R.seq ?_ | refine LCB.text ?_ | refine LCB.quiet rfl ?_ | refine R.calls rfl ?_ | refine R.block ?_ | refine LCB.skip ?_ | refine LCB.exit ?_ | refine LCB.ret ?_ | ((first | refine RetOk.val hcl ?_ | refine Weak.at hcl ?_); simp only [seval, evw, List.forall_mem_cons, List.forall_mem_map, List.forall_mem_append, List.not_mem_nil, encB_def, encN_def, sb, insA, encIns, ins_dec, ins_eta, lineH_eq, List.length_append, CallA_fn2, *]) | ((first | refine LCB.cond (by simp only [seval, evo] <;> rfl) ?_ ?_ | refine wpG_split (by simp only [seval, evo] <;> rfl) ?_ ?_ | refine wqG_split (by simp only [seval, evo] <;> rfl) ?_ ?_) <;> (intro hc; try simp only [seval, nf] at hc)) | refine ACalls.inst ?_ | refine CallP.inst rfl ?_)
    · rw [if_pos (by simp; omega)] at hq2
      have e5 : ¬ (fr : Int) < (s.length : Int) := by omega
      have hres := hR.of
      rw [← hq2] at hres
      simp only at hres
      have hc1 := asm_Check_ok f
      obtain ⟨k, hk1, hk2⟩ := fnChk_at f
      unfold encFn fnChkA at hc1
      rw [hk1] at hc1 hres
      simp only [Int.toNat_natCast] at hres
      generalize (fnChk f).2 = e at *
      clear hk1
      replace hq2 := Hold.mk hq2
      replace hc1 := Hold.mk hc1
      by_cases he : e = 0
      · rw [if_pos he] at hres
        have hres2 : fnR PR = .tup [.list (f.map encIns), .int .i64 0, .int .i64 0] := by rw [hres]; rfl
        subst he
        replace hres := Hold.mk hres
        repeat' (first | simp only [seval, evo, beq_self_eq_true, encB_def, encN_def, sb, insA, encIns, ins_dec, ins_eta, lineH_eq, List.length_append, CallA_fn2, *] | simp (disch := omega) only [if_pos, if_neg] | refine R.seq ?_ | refine LCB.text ?_ | refine LCB.quiet rfl ?_ | refine R.calls rfl ?_ | refine R.block ?_ | refine LCB.skip ?_ | refine LCB.exit ?_ | refine LCB.ret ?_ | ((first | refine RetOk.val hcl ?_ | refine Weak.at hcl ?_); simp only [seval, evw, List.forall_mem_cons, List.forall_mem_map, List.forall_mem_append, List.not_mem_nil, encB_def, encN_def, sb, insA, encIns, ins_dec, ins_eta, lineH_eq, List.length_append, CallA_fn2, *]) | ((first | refine LCB.cond (by simp only [seval, evo] <;> rfl) ?_ ?_ | refine wpG_split (by simp only [seval, evo] <;> rfl) ?_ ?_ | refine wqG_split (by simp only [seval, evo] <;> rfl) ?_ ?_) <;> (intro hc; try simp only [seval, nf] at hc)) | refine ACalls.inst ?_ | refine CallP.inst rfl ?_)
        first | refine ACalls.pure (hc1.of) ?_ | refine CallP.pure (hc1.of) rfl ?_ | refine CallX.pure (hc1.of) ?_
        repeat' (first | simp only [seval, evo, beq_self_eq_true, encB_def, encN_def, sb, insA, encIns, ins_dec, ins_eta, lineH_eq, List.length_append, CallA_fn2, *] | simp (disch := omega) only [if_pos, if_neg] | refine R.seq ?_ | refine LCB.text ?_ | refine LCB.quiet rfl ?_ | refine R.calls rfl ?_ | refine R.block ?_ | refine LCB.skip ?_ | refine LCB.exit ?_ | refine LCB.ret ?_ | ((first | refine RetOk.val hcl ?_ | refine Weak.at hcl ?_); simp only [seval, evw, List.forall_mem_cons, List.forall_mem_map, List.forall_mem_append, List.not_mem_nil, encB_def, encN_def, sb, insA, encIns, ins_dec, ins_eta, lineH_eq, List.length_append, CallA_fn2, *]) | ((first | refine LCB.cond (by simp only [seval, evo] <;> rfl) ?_ ?_ | refine wpG_split (by simp only [seval, evo] <;> rfl) ?_ ?_ | refine wqG_split (by simp only [seval, evo] <;> rfl) ?_ ?_) <;> (intro hc; try simp only [seval, nf] at hc)) | refine ACalls.inst ?_ | refine CallP.inst rfl ?_)
      · rw [if_neg he] at hres
        by_cases hkb : k < bg.length
        · rw [if_pos hkb] at hres
          have hres2 : fnR PR = .tup [.list [], .int .i64 ((bg.getD k 0 : Nat) : Int), .int .i64 e] := by rw [hres]; rfl
          have e6 : (k : Int) < (bg.length : Int) := by omega
          have hg := getD_encN hkb
          replace hres := Hold.mk hres
          repeat' (first | simp only [seval, evo, beq_self_eq_true, encB_def, encN_def, sb, insA, encIns, ins_dec, ins_eta, lineH_eq, List.length_append, CallA_fn2, *] | simp (disch := omega) only [if_pos, if_neg] | refine R.seq ?_ | refine LCB.text ?_ | refine LCB.quiet rfl ?_ | refine R.calls rfl ?_ | refine R.block ?_ | refine LCB.skip ?_ | refine LCB.exit ?_ | refine LCB.ret ?_ | ((first | refine RetOk.val hcl ?_ | refine Weak.at hcl ?_); simp only [seval, evw, List.forall_mem_cons, List.forall_mem_map, List.forall_mem_append, List.not_mem_nil, encB_def, encN_def, sb, insA, encIns, ins_dec, ins_eta, lineH_eq, List.length_append, CallA_fn2, *]) | ((first | refine LCB.cond (by simp only [seval, evo] <;> rfl) ?_ ?_ | refine wpG_split (by simp only [seval, evo] <;> rfl) ?_ ?_ | refine wqG_split (by simp only [seval, evo] <;> rfl) ?_ ?_) <;> (intro hc; try simp only [seval, nf] at hc)) | refine ACalls.inst ?_ | refine CallP.inst rfl ?_)
          first | refine ACalls.pure (hc1.of) ?_ | refine CallP.pure (hc1.of) rfl ?_ | refine CallX.pure (hc1.of) ?_
          repeat' (first | simp only [seval, evo, beq_self_eq_true, encB_def, encN_def, sb, insA, encIns, ins_dec, ins_eta, lineH_eq, List.length_append, CallA_fn2, *] | simp (disch := omega) only [if_pos, if_neg] | refine R.seq ?_ | refine LCB.text ?_ | refine LCB.quiet rfl ?_ | refine R.calls rfl ?_ | refine R.block ?_ | refine LCB.skip ?_ | refine LCB.exit ?_ | refine LCB.ret ?_ | ((first | refine RetOk.val hcl ?_ | refine Weak.at hcl ?_); simp only [seval, evw, List.forall_mem_cons, List.forall_mem_map, List.forall_mem_append, List.not_mem_nil, encB_def, encN_def, sb, insA, encIns, ins_dec, ins_eta, lineH_eq, List.length_append, CallA_fn2, *]) | ((first | refine LCB.cond (by simp only [seval, evo] <;> rfl) ?_ ?_ | refine wpG_split (by simp only [seval, evo] <;> rfl) ?_ ?_ | refine wqG_split (by simp only [seval, evo] <;> rfl) ?_ ?_) <;> (intro hc; try simp only [seval, nf] at hc)) | refine ACalls.inst ?_ | refine CallP.inst rfl ?_)
        · rw [if_neg hkb] at hres
          have hres2 : fnR PR = .tup [.list [], .int .i64 (k : Int), .int .i64 e] := by rw [hres]; rfl
          have e6 : ¬ (k : Int) < (bg.length : Int) := by omega
          replace hres := Hold.mk hres
          repeat' (first | simp only [seval, evo, beq_self_eq_true, encB_def, encN_def, sb, insA, encIns, ins_dec, ins_eta, lineH_eq, List.length_append, CallA_fn2, *] | simp (disch := omega) only [if_pos, if_neg] | refine R.seq ?_ | refine LCB.text ?_ | refine LCB.quiet rfl ?_ | refine R.calls rfl ?_ | refine R.block ?_ | refine LCB.skip ?_ | refine LCB.exit ?_ | refine LCB.ret ?_ | ((first | refine RetOk.val hcl ?_ | refine Weak.at hcl ?_); simp only [seval, evw, List.forall_mem_cons, List.forall_mem_map, List.forall_mem_append, List.not_mem_nil, encB_def, encN_def, sb, insA, encIns, ins_dec, ins_eta, lineH_eq, List.length_append, CallA_fn2, *]) | ((first | refine LCB.cond (by simp only [seval, evo] <;> rfl) ?_ ?_ | refine wpG_split (by simp only [seval, evo] <;> rfl) ?_ ?_ | refine wqG_split (by simp only [seval, evo] <;> rfl) ?_ ?_) <;> (intro hc; try simp only [seval, nf] at hc)) | refine ACalls.inst ?_ | refine CallP.inst rfl ?_)
          first | refine ACalls.pure (hc1.of) ?_ | refine CallP.pure (hc1.of) rfl ?_ | refine CallX.pure (hc1.of) ?_
          repeat' (first | simp only [seval, evo, beq_self_eq_true, encB_def, encN_def, sb, insA, encIns, ins_dec, ins_eta, lineH_eq, List.length_append, CallA_fn2, *] | simp (disch := omega) only [if_pos, if_neg] | refine R.seq ?_ | refine LCB.text ?_ | refine LCB.quiet rfl ?_ | refine R.calls rfl ?_ | refine R.block ?_ | refine LCB.skip ?_ | refine LCB.exit ?_ | refine LCB.ret ?_ | ((first | refine RetOk.val hcl ?_ | refine Weak.at hcl ?_); simp only [seval, evw, List.forall_mem_cons, List.forall_mem_map, List.forall_mem_append, List.not_mem_nil, encB_def, encN_def, sb, insA, encIns, ins_dec, ins_eta, lineH_eq, List.length_append, CallA_fn2, *]) | ((first | refine LCB.cond (by simp only [seval, evo] <;> rfl) ?_ ?_ | refine wpG_split (by simp only [seval, evo] <;> rfl) ?_ ?_ | refine wqG_split (by simp only [seval, evo] <;> rfl) ?_ ?_) <;> (intro hc; try simp only [seval, nf] at hc)) | refine ACalls.inst ?_ | refine CallP.inst rfl ?_)
end Go.Proofs.YtbkbehkjndmabaaDoor

/-
  step: how great; the examples.
-/
namespace Go.Proofs.YtbkbehkjndmabaaDoor
open Go.RowKit
set_option linter.unusedVariables false
set_option linter.unusedSimpArgs false
theorem ACalls.views {P : Program} {f : FuncId} {H : List AObj} {args : List AV} {K : AV → List AObj → Prop} (args' : List AV) (h : Loses H H args args') (hc : ACalls P f args' H K) : ACalls P f args H K :=
  ACalls.lose ⟨rfl, fun k o p h1 h2 => .inl (by rw [h1] at h2; cases h2; rfl)⟩ h hc
def ks : St := ⟨[noW, noW, ⟨true, 5⟩] ++ List.replicate 21 noW, [], 0, 0⟩
def kt : St := ⟨[noW, ⟨true, 9⟩, ⟨true, 5⟩] ++ List.replicate 21 noW, [], 1, 1⟩
end Go.Proofs.YtbkbehkjndmabaaDoor

/-
  step: plain laws of a step.
-/
namespace Go.Proofs.YtbkbehkjndmabaaDoor
open Go.RowKit
set_option linter.unusedVariables false
set_option linter.unusedSimpArgs false
theorem stepF_len (f : List Ins) (s : St) (ask : List Int) : (stepF f s ask).1.L.length = s.L.length := by
  unfold stepF
  split
  · exact stepW_len _ _ _
  · rfl
theorem moveS_heap (s : St) (x : Ins) : (moveS s x).heap = s.heap := by unfold moveS; (repeat' split) <;> rfl
theorem moveS_asked (s : St) (x : Ins) : (moveS s x).asked = s.asked := by unfold moveS; (repeat' split) <;> rfl
theorem setS_heap (s : St) (d : Nat) (v how : Int) : (setS s d v how).heap = s.heap := by unfold setS; split <;> rfl
theorem setS_asked (s : St) (d : Nat) (v how : Int) : (setS s d v how).asked = s.asked := by unfold setS; split <;> rfl
theorem hStore_len (h : List Int) (a v : Int) (e : (hStore h a v).2 = 0) : (hStore h a v).1.length = h.length := by
  revert e
  unfold hStore
  split <;> simp
theorem stepW_heap (s : St) (x : Ins) (ask : List Int) : (stepW s x ask).1.heap.length = s.heap.length := by
  unfold stepW
  simp only
  split
  · split <;> simp [setS_heap]
  · split
    · split
      · rename_i h
        exact hStore_len _ _ _ h
      · rfl
    · (repeat' split) <;> simp [setS_heap, moveS_heap, callS]
theorem stepF_heap (f : List Ins) (s : St) (ask : List Int) : (stepF f s ask).1.heap.length = s.heap.length := by
  unfold stepF
  split
  · exact stepW_heap _ _ _
  · rfl
theorem stepF_out (f : List Ins) (s : St) (ask : List Int) : (stepF f s ask).2.2.heap.length ≤ s.heap.length := by
  unfold stepF
  split
  · simp only
    split
    · exact Nat.le_refl _
    · simp
  · simp
theorem stepF_evs (f : List Ins) (s : St) (ask : List Int) : (stepF f s ask).2.1.length ≤ 1 := by
  unfold stepF
  split
  · unfold stepW
    simp only
    (repeat' split) <;> simp
  · simp
end Go.Proofs.YtbkbehkjndmabaaDoor

/-
  run: cases; how they begin.
-/
namespace Go.Proofs.YtbkbehkjndmabaaDoor
open Go.RowKit
set_option linter.unusedVariables false
set_option linter.unusedSimpArgs false
/-- Cells of numbers. -/
def ic (R : List Int) : List AV := R.map (AV.int .i64)
theorem ic_len (R : List Int) : (ic R).length = R.length := by simp [ic]
theorem ic_get {R : List Int} {r : List AV} {i : Nat} (h : i < R.length) : (ic R ++ r)[i]? = some (.int .i64 (R.getD i 0)) := by
  rw [List.getElem?_append_left (by rw [ic_len]; exact h)]
  simp [ic, List.getD, h]
theorem ic_clean (m : Nat) : ∀ R : List Int, cleanAll m (ic R) = true
  | [] => rfl
  | n :: R => by
    have := ic_clean m R
    show (AV.clean m (.int .i64 n) && cleanAll m (ic R)) = true
    rw [this]; rfl
theorem cl_ic {m : Nat} {R : List Int} {r : List AV} : cleanAll m (ic R ++ r) = cleanAll m r := by rw [cleanAll_app, ic_clean, Bool.true_and]
theorem ac_ic {R : List Int} {r : List AV} : allCells (ic R ++ r) = allCells r := by
  rw [ac_app]
  have : ∀ R : List Int, allCells (ic R) = true := fun R => by
    unfold allCells ic
    rw [List.all_map, List.all_eq_true]
    intro x _
    rfl
  rw [this, Bool.true_and]
theorem vws_ic {H : List AObj} {m : Nat} {R : List Int} {x y : List AV} : Views H m (ic R ++ x) (ic R ++ y) = Views H m x y := propext ⟨Views.post, Views.pre (ic_clean m R)⟩
theorem lss_ic {H G : List AObj} {R : List Int} {x y : List AV} : Loses H G (ic R ++ x) (ic R ++ y) = Loses H G x y := propext ⟨Loses.post, Loses.pre⟩
theorem ti_hi {R : List Int} {b : List AV} {n : Nat} (h : (ic R).length ≤ n) : (ic R ++ b).take n = ic R ++ b.take (n - (ic R).length) := by rw [List.take_append, List.take_of_length_le h]
theorem di_hi {R : List Int} {b : List AV} {n : Nat} (h : (ic R).length ≤ n) : (ic R ++ b).drop n = b.drop (n - (ic R).length) := by rw [List.drop_append, List.drop_of_length_le h, List.nil_append]
theorem gi_hi {R : List Int} {b : List AV} {n : Nat} (h : (ic R).length ≤ n) : (ic R ++ b)[n]? = b[n - (ic R).length]? := List.getElem?_append_right h
theorem ln_ic {R : List Int} {b : List AV} : (ic R ++ b).length = (ic R).length + b.length := List.length_append
theorem ic_app {R : List Int} {a b : List AV} : (ic R ++ a) ++ b = ic R ++ (a ++ b) := List.append_assoc _ _ _
theorem ec : type_of% (And.intro @cl_ic (And.intro @ac_ic (And.intro @vws_ic (And.intro @lss_ic (And.intro @ti_hi (And.intro @di_hi (And.intro @gi_hi (And.intro @ln_ic (@ic_app))))))))) :=
  And.intro @cl_ic (And.intro @ac_ic (And.intro @vws_ic (And.intro @lss_ic (And.intro @ti_hi (And.intro @di_hi (And.intro @gi_hi (And.intro @ln_ic (@ic_app))))))))

/-- A case. -/
structure Cs where
  R : List Int
  heap : List Int
  ans : List Int
  fuel : Int
deriving DecidableEq
def csA (c : Cs) : AV := .agg (ic c.R ++ [ints c.heap, ints c.ans, .int .i64 c.fuel])
theorem csA_eq (c : Cs) : csA c = .agg (ic c.R ++ [.list (c.heap.map encI), .list (c.ans.map encI), .int .i64 c.fuel]) := rfl
def csRight (c : Cs) : Bool := decide (c.heap.length ≤ 16) && (decide (c.ans.length ≤ 5000) && (decide (0 ≤ c.fuel) && decide (c.fuel ≤ 5000)))
def csGreat (f : List Ins) (c : Cs) : Bool := decide (300 < f.length) || (decide (100 < c.heap.length) || (decide (1000 < c.ans.length) || (decide (1000 < c.fuel) && decide (c.fuel ≤ 5000))))
def beginS (c : Cs) : St := ⟨c.R.map (fun v => ⟨true, v⟩) ++ List.replicate 16 noW, c.heap, 0, 0⟩
theorem beginS_len {c : Cs} (h : c.R.length = 8) : (beginS c).L.length = 24 := by simp [beginS, h]
/-- So many registers filled. -/
def bL (R : List Int) (i : Nat) : List W := (R.take i).map (fun v => ⟨true, v⟩) ++ List.replicate (24 - i) noW
theorem bL_len {R : List Int} {i : Nat} (h : R.length = 8) (hi : i ≤ 8) : (bL R i).length = 24 := by simp [bL, h]; omega
theorem bL_set {R : List Int} {i : Nat} (h : R.length = 8) (hi : i < 8) : (bL R i).set i ⟨true, R.getD i 0⟩ = bL R (i + 1) := by
  unfold bL
  have hl : ((R.take i).map (fun v => (⟨true, v⟩ : W))).length = i := by simp; omega
  rw [List.set_append_right _ _ (by omega), hl, Nat.sub_self]
  have e : 24 - i = (24 - (i + 1)) + 1 := by omega
  rw [e, List.replicate_succ, List.set_cons_zero, List.take_succ_eq_append_getElem (by omega), List.map_append, List.append_assoc]
  simp [List.getD, show i < R.length by omega]
theorem bL_end {R : List Int} (h : R.length = 8) : bL R 8 = R.map (fun v => ⟨true, v⟩) ++ List.replicate 16 noW := by
  unfold bL
  rw [List.take_of_length_le (by omega)]
theorem bL_zero (R : List Int) : bL R 0 = List.replicate 24 noW := by simp [bL]
theorem run_Right_ok (c : Cs) (hR : c.R.length = 8) : Pure Tryd.prog 30 [csA c] (.bool (csRight c)) := by
  intro H
  refine ACalls.go run_Right.low (by simp) fun hcl => ?_
  have hil : (ic c.R).length = 8 := by rw [ic_len, hR]
  have hr : csRight c = (decide (c.heap.length ≤ 16) && (decide ((c.ans.length : Int) ≤ 5000) && (decide (0 ≤ c.fuel) && decide (c.fuel ≤ 5000)))) := by
    unfold csRight
    rw [show decide (c.ans.length ≤ 5000) = decide ((c.ans.length : Int) ≤ 5000) from decide_eq_decide.2 (by omega)]
  rw [hr, csA_eq]
  replace hr := Hold.mk hr
  replace hR := Hold.mk hR
  by_cases k1 : c.heap.length ≤ 16
  case neg => repeat' (first | simp only [seval, evx, beq_self_eq_true, sb, ew, ec, evs_eq, encEv_def, List.map_nil, Nat.mul_one, *] | simp (disch := omega) only [if_pos, if_neg] | refine R.seq ?_ | refine LCB.text ?_ | refine LCB.quiet rfl ?_ | refine R.anyX ?_ | refine R.block ?_ | refine LCB.skip ?_ | refine LCB.exit ?_ | refine LCB.ret ?_ | ((first | refine RetOk.val hcl ?_ | refine Weak.at hcl ?_); simp only [seval, evw, List.forall_mem_cons, List.forall_mem_map, List.forall_mem_append, List.not_mem_nil, sb, ew, ec, evs_eq, encEv_def, List.map_nil, Nat.mul_one, *]) | ((first | refine LCB.cond (by simp only [seval, evx] <;> rfl) ?_ ?_ | refine wpG_split (by simp only [seval, evx] <;> rfl) ?_ ?_ | refine wxG_split (by simp only [seval, evx] <;> rfl) ?_ ?_) <;> (intro hc; try simp only [seval, nf] at hc)) | refine ACalls.inst ?_ | refine CallX.inst ?_ | (with_reducible refine And.intro ?_ ?_) | exact True.intro)
  by_cases k2 : (c.ans.length : Int) ≤ 5000
  case neg => repeat' (first | simp only [seval, evx, beq_self_eq_true, sb, ew, ec, evs_eq, encEv_def, List.map_nil, Nat.mul_one, *] | simp (disch := omega) only [if_pos, if_neg] | refine R.seq ?_ | refine LCB.text ?_ | refine LCB.quiet rfl ?_ | refine R.anyX ?_ | refine R.block ?_ | refine LCB.skip ?_ | refine LCB.exit ?_ | refine LCB.ret ?_ | ((first | refine RetOk.val hcl ?_ | refine Weak.at hcl ?_); simp only [seval, evw, List.forall_mem_cons, List.forall_mem_map, List.forall_mem_append, List.not_mem_nil, sb, ew, ec, evs_eq, encEv_def, List.map_nil, Nat.mul_one, *]) | ((first | refine LCB.cond (by simp only [seval, evx] <;> rfl) ?_ ?_ | refine wpG_split (by simp only [seval, evx] <;> rfl) ?_ ?_ | refine wxG_split (by simp only [seval, evx] <;> rfl) ?_ ?_) <;> (intro hc; try simp only [seval, nf] at hc)) | refine ACalls.inst ?_ | refine CallX.inst ?_ | (with_reducible refine And.intro ?_ ?_) | exact True.intro)
  by_cases k3 : 0 ≤ c.fuel
  case neg => repeat' (first | simp only [seval, evx, beq_self_eq_true, sb, ew, ec, evs_eq, encEv_def, List.map_nil, Nat.mul_one, *] | simp (disch := omega) only [if_pos, if_neg] | refine R.seq ?_ | refine LCB.text ?_ | refine LCB.quiet rfl ?_ | refine R.anyX ?_ | refine R.block ?_ | refine LCB.skip ?_ | refine LCB.exit ?_ | refine LCB.ret ?_ | ((first | refine RetOk.val hcl ?_ | refine Weak.at hcl ?_); simp only [seval, evw, List.forall_mem_cons, List.forall_mem_map, List.forall_mem_append, List.not_mem_nil, sb, ew, ec, evs_eq, encEv_def, List.map_nil, Nat.mul_one, *]) | ((first | refine LCB.cond (by simp only [seval, evx] <;> rfl) ?_ ?_ | refine wpG_split (by simp only [seval, evx] <;> rfl) ?_ ?_ | refine wxG_split (by simp only [seval, evx] <;> rfl) ?_ ?_) <;> (intro hc; try simp only [seval, nf] at hc)) | refine ACalls.inst ?_ | refine CallX.inst ?_ | (with_reducible refine And.intro ?_ ?_) | exact True.intro)
  repeat' (first | simp only [seval, evx, beq_self_eq_true, sb, ew, ec, evs_eq, encEv_def, List.map_nil, Nat.mul_one, *] | simp (disch := omega) only [if_pos, if_neg] | refine R.seq ?_ | refine LCB.text ?_ | refine LCB.quiet rfl ?_ | refine R.anyX ?_ | refine R.block ?_ | refine LCB.skip ?_ | refine LCB.exit ?_ | refine LCB.ret ?_ | ((first | refine RetOk.val hcl ?_ | refine Weak.at hcl ?_); simp only [seval, evw, List.forall_mem_cons, List.forall_mem_map, List.forall_mem_append, List.not_mem_nil, sb, ew, ec, evs_eq, encEv_def, List.map_nil, Nat.mul_one, *]) | ((first | refine LCB.cond (by simp only [seval, evx] <;> rfl) ?_ ?_ | refine wpG_split (by simp only [seval, evx] <;> rfl) ?_ ?_ | refine wxG_split (by simp only [seval, evx] <;> rfl) ?_ ?_) <;> (intro hc; try simp only [seval, nf] at hc)) | refine ACalls.inst ?_ | refine CallX.inst ?_ | (with_reducible refine And.intro ?_ ?_) | exact True.intro)
theorem ref08_Right_ok (c : Cs) (hR : c.R.length = 8) : Pure Tryd.prog 31 [csA c] (.bool (csRight c)) := by
  intro H
  refine ACalls.go joineryref08_Right.low (by simp) fun hcl => ?_
  have hil : (ic c.R).length = 8 := by rw [ic_len, hR]
  have hr : csRight c = (decide ((c.heap.length : Int) ≤ 16) && (decide ((c.ans.length : Int) ≤ 5000) && (decide (0 ≤ c.fuel) && decide (c.fuel ≤ 5000)))) := by
    unfold csRight
    rw [show decide (c.ans.length ≤ 5000) = decide ((c.ans.length : Int) ≤ 5000) from decide_eq_decide.2 (by omega), show decide (c.heap.length ≤ 16) = decide ((c.heap.length : Int) ≤ 16) from decide_eq_decide.2 (by omega)]
  rw [hr, csA_eq]
  replace hr := Hold.mk hr
  replace hR := Hold.mk hR
  by_cases k1 : (c.heap.length : Int) ≤ 16
  case neg => repeat' (first | simp only [seval, evx, beq_self_eq_true, sb, ew, ec, evs_eq, encEv_def, List.map_nil, Nat.mul_one, *] | simp (disch := omega) only [if_pos, if_neg] | refine R.seq ?_ | refine LCB.text ?_ | refine LCB.quiet rfl ?_ | refine R.anyX ?_ | refine R.block ?_ | refine LCB.skip ?_ | refine LCB.exit ?_ | refine LCB.ret ?_ | ((first | refine RetOk.val hcl ?_ | refine Weak.at hcl ?_); simp only [seval, evw, List.forall_mem_cons, List.forall_mem_map, List.forall_mem_append, List.not_mem_nil, sb, ew, ec, evs_eq, encEv_def, List.map_nil, Nat.mul_one, *]) | ((first | refine LCB.cond (by simp only [seval, evx] <;> rfl) ?_ ?_ | refine wpG_split (by simp only [seval, evx] <;> rfl) ?_ ?_ | refine wxG_split (by simp only [seval, evx] <;> rfl) ?_ ?_) <;> (intro hc; try simp only [seval, nf] at hc)) | refine ACalls.inst ?_ | refine CallX.inst ?_ | (with_reducible refine And.intro ?_ ?_) | exact True.intro)
  by_cases k2 : (c.ans.length : Int) ≤ 5000
  case neg => repeat' (first | simp only [seval, evx, beq_self_eq_true, sb, ew, ec, evs_eq, encEv_def, List.map_nil, Nat.mul_one, *] | simp (disch := omega) only [if_pos, if_neg] | refine R.seq ?_ | refine LCB.text ?_ | refine LCB.quiet rfl ?_ | refine R.anyX ?_ | refine R.block ?_ | refine LCB.skip ?_ | refine LCB.exit ?_ | refine LCB.ret ?_ | ((first | refine RetOk.val hcl ?_ | refine Weak.at hcl ?_); simp only [seval, evw, List.forall_mem_cons, List.forall_mem_map, List.forall_mem_append, List.not_mem_nil, sb, ew, ec, evs_eq, encEv_def, List.map_nil, Nat.mul_one, *]) | ((first | refine LCB.cond (by simp only [seval, evx] <;> rfl) ?_ ?_ | refine wpG_split (by simp only [seval, evx] <;> rfl) ?_ ?_ | refine wxG_split (by simp only [seval, evx] <;> rfl) ?_ ?_) <;> (intro hc; try simp only [seval, nf] at hc)) | refine ACalls.inst ?_ | refine CallX.inst ?_ | (with_reducible refine And.intro ?_ ?_) | exact True.intro)
  by_cases k3 : 0 ≤ c.fuel
  case neg => repeat' (first | simp only [seval, evx, beq_self_eq_true, sb, ew, ec, evs_eq, encEv_def, List.map_nil, Nat.mul_one, *] | simp (disch := omega) only [if_pos, if_neg] | refine R.seq ?_ | refine LCB.text ?_ | refine LCB.quiet rfl ?_ | refine R.anyX ?_ | refine R.block ?_ | refine LCB.skip ?_ | refine LCB.exit ?_ | refine LCB.ret ?_ | ((first | refine RetOk.val hcl ?_ | refine Weak.at hcl ?_); simp only [seval, evw, List.forall_mem_cons, List.forall_mem_map, List.forall_mem_append, List.not_mem_nil, sb, ew, ec, evs_eq, encEv_def, List.map_nil, Nat.mul_one, *]) | ((first | refine LCB.cond (by simp only [seval, evx] <;> rfl) ?_ ?_ | refine wpG_split (by simp only [seval, evx] <;> rfl) ?_ ?_ | refine wxG_split (by simp only [seval, evx] <;> rfl) ?_ ?_) <;> (intro hc; try simp only [seval, nf] at hc)) | refine ACalls.inst ?_ | refine CallX.inst ?_ | (with_reducible refine And.intro ?_ ?_) | exact True.intro)
  repeat' (first | simp only [seval, evx, beq_self_eq_true, sb, ew, ec, evs_eq, encEv_def, List.map_nil, Nat.mul_one, *] | simp (disch := omega) only [if_pos, if_neg] | refine R.seq ?_ | refine LCB.text ?_ | refine LCB.quiet rfl ?_ | refine R.anyX ?_ | refine R.block ?_ | refine LCB.skip ?_ | refine LCB.exit ?_ | refine LCB.ret ?_ | ((first | refine RetOk.val hcl ?_ | refine Weak.at hcl ?_); simp only [seval, evw, List.forall_mem_cons, List.forall_mem_map, List.forall_mem_append, List.not_mem_nil, sb, ew, ec, evs_eq, encEv_def, List.map_nil, Nat.mul_one, *]) | ((first | refine LCB.cond (by simp only [seval, evx] <;> rfl) ?_ ?_ | refine wpG_split (by simp only [seval, evx] <;> rfl) ?_ ?_ | refine wxG_split (by simp only [seval, evx] <;> rfl) ?_ ?_) <;> (intro hc; try simp only [seval, nf] at hc)) | refine ACalls.inst ?_ | refine CallX.inst ?_ | (with_reducible refine And.intro ?_ ?_) | exact True.intro)
theorem ref08_Fair_ok (f : List Ins) (c : Cs) (hR : c.R.length = 8) : Pure Tryd.prog 34 [encFn f, csA c] (.bool (fnOk f && csRight c)) := by
  intro H
  refine ACalls.go joineryref08_Fair.low (by simp) fun hcl => ?_
  have hil : (ic c.R).length = 8 := by rw [ic_len, hR]
  have h1 := ref04_Right_ok f
  have h2 := ref08_Right_ok c hR
  rw [csA_eq] at *
  unfold encFn at *
  generalize fnOk f = b1 at *
  generalize csRight c = b2 at *
  replace h1 := Hold.mk h1
  replace h2 := Hold.mk h2
  replace hR := Hold.mk hR
  cases b1
  all_goals
    repeat' (first | simp only [seval, evx, beq_self_eq_true, sb, ew, ec, evs_eq, encEv_def, List.map_nil, Nat.mul_one, *] | simp (disch := omega) only [if_pos, if_neg] | refine R.seq ?_ | refine LCB.text ?_ | refine LCB.quiet rfl ?_ | refine R.anyX ?_ | refine R.block ?_ | refine LCB.skip ?_ | refine LCB.exit ?_ | refine LCB.ret ?_ | ((first | refine RetOk.val hcl ?_ | refine Weak.at hcl ?_); simp only [seval, evw, List.forall_mem_cons, List.forall_mem_map, List.forall_mem_append, List.not_mem_nil, sb, ew, ec, evs_eq, encEv_def, List.map_nil, Nat.mul_one, *]) | ((first | refine LCB.cond (by simp only [seval, evx] <;> rfl) ?_ ?_ | refine wpG_split (by simp only [seval, evx] <;> rfl) ?_ ?_ | refine wxG_split (by simp only [seval, evx] <;> rfl) ?_ ?_) <;> (intro hc; try simp only [seval, nf] at hc)) | refine ACalls.inst ?_ | refine CallX.inst ?_ | (with_reducible refine And.intro ?_ ?_) | exact True.intro)
    first | refine ACalls.pure (h1.of) ?_ | refine CallP.pure (h1.of) rfl ?_ | refine CallX.pure (h1.of) ?_
    repeat' (first | simp only [seval, evx, beq_self_eq_true, sb, ew, ec, evs_eq, encEv_def, List.map_nil, Nat.mul_one, *] | simp (disch := omega) only [if_pos, if_neg] | refine R.seq ?_ | refine LCB.text ?_ | refine LCB.quiet rfl ?_ | refine R.anyX ?_ | refine R.block ?_ | refine LCB.skip ?_ | refine LCB.exit ?_ | refine LCB.ret ?_ | ((first | refine RetOk.val hcl ?_ | refine Weak.at hcl ?_); simp only [seval, evw, List.forall_mem_cons, List.forall_mem_map, List.forall_mem_append, List.not_mem_nil, sb, ew, ec, evs_eq, encEv_def, List.map_nil, Nat.mul_one, *]) | ((first | refine LCB.cond (by simp only [seval, evx] <;> rfl) ?_ ?_ | refine wpG_split (by simp only [seval, evx] <;> rfl) ?_ ?_ | refine wxG_split (by simp only [seval, evx] <;> rfl) ?_ ?_) <;> (intro hc; try simp only [seval, nf] at hc)) | refine ACalls.inst ?_ | refine CallX.inst ?_ | (with_reducible refine And.intro ?_ ?_) | exact True.intro)
  first | refine ACalls.pure (h2.of) ?_ | refine CallP.pure (h2.of) rfl ?_ | refine CallX.pure (h2.of) ?_
  repeat' (first | simp only [seval, evx, beq_self_eq_true, sb, ew, ec, evs_eq, encEv_def, List.map_nil, Nat.mul_one, *] | simp (disch := omega) only [if_pos, if_neg] | refine R.seq ?_ | refine LCB.text ?_ | refine LCB.quiet rfl ?_ | refine R.anyX ?_ | refine R.block ?_ | refine LCB.skip ?_ | refine LCB.exit ?_ | refine LCB.ret ?_ | ((first | refine RetOk.val hcl ?_ | refine Weak.at hcl ?_); simp only [seval, evw, List.forall_mem_cons, List.forall_mem_map, List.forall_mem_append, List.not_mem_nil, sb, ew, ec, evs_eq, encEv_def, List.map_nil, Nat.mul_one, *]) | ((first | refine LCB.cond (by simp only [seval, evx] <;> rfl) ?_ ?_ | refine wpG_split (by simp only [seval, evx] <;> rfl) ?_ ?_ | refine wxG_split (by simp only [seval, evx] <;> rfl) ?_ ?_) <;> (intro hc; try simp only [seval, nf] at hc)) | refine ACalls.inst ?_ | refine CallX.inst ?_ | (with_reducible refine And.intro ?_ ?_) | exact True.intro)
theorem law08_Great_ok (f : List Ins) (c : Cs) (hR : c.R.length = 8) : Pure Tryd.prog 27 [encFn f, csA c] (.bool (csGreat f c)) := by
  intro H
  refine ACalls.go joinerylaw08_Great.low (by simp) fun hcl => ?_
  have hil : (ic c.R).length = 8 := by rw [ic_len, hR]
  have hr : csGreat f c = (decide ((300 : Int) < (f.length : Int)) || (decide ((100 : Int) < (c.heap.length : Int)) || (decide ((1000 : Int) < (c.ans.length : Int)) || (decide (1000 < c.fuel) && decide (c.fuel ≤ 5000))))) := by
    unfold csGreat
    rw [show decide (300 < f.length) = decide ((300 : Int) < (f.length : Int)) from decide_eq_decide.2 (by omega), show decide (100 < c.heap.length) = decide ((100 : Int) < (c.heap.length : Int)) from decide_eq_decide.2 (by omega), show decide (1000 < c.ans.length) = decide ((1000 : Int) < (c.ans.length : Int)) from decide_eq_decide.2 (by omega)]
  rw [hr, csA_eq]
  unfold encFn
  replace hr := Hold.mk hr
  replace hR := Hold.mk hR
  by_cases k1 : (300 : Int) < (f.length : Int)
  case pos => repeat' (first | simp only [seval, evx, beq_self_eq_true, sb, ew, ec, evs_eq, encEv_def, List.map_nil, Nat.mul_one, *] | simp (disch := omega) only [if_pos, if_neg] | refine R.seq ?_ | refine LCB.text ?_ | refine LCB.quiet rfl ?_ | refine R.anyX ?_ | refine R.block ?_ | refine LCB.skip ?_ | refine LCB.exit ?_ | refine LCB.ret ?_ | ((first | refine RetOk.val hcl ?_ | refine Weak.at hcl ?_); simp only [seval, evw, List.forall_mem_cons, List.forall_mem_map, List.forall_mem_append, List.not_mem_nil, sb, ew, ec, evs_eq, encEv_def, List.map_nil, Nat.mul_one, *]) | ((first | refine LCB.cond (by simp only [seval, evx] <;> rfl) ?_ ?_ | refine wpG_split (by simp only [seval, evx] <;> rfl) ?_ ?_ | refine wxG_split (by simp only [seval, evx] <;> rfl) ?_ ?_) <;> (intro hc; try simp only [seval, nf] at hc)) | refine ACalls.inst ?_ | refine CallX.inst ?_ | (with_reducible refine And.intro ?_ ?_) | exact True.intro)
  by_cases k2 : (100 : Int) < (c.heap.length : Int)
  case pos => repeat' (first | simp only [seval, evx, beq_self_eq_true, sb, ew, ec, evs_eq, encEv_def, List.map_nil, Nat.mul_one, *] | simp (disch := omega) only [if_pos, if_neg] | refine R.seq ?_ | refine LCB.text ?_ | refine LCB.quiet rfl ?_ | refine R.anyX ?_ | refine R.block ?_ | refine LCB.skip ?_ | refine LCB.exit ?_ | refine LCB.ret ?_ | ((first | refine RetOk.val hcl ?_ | refine Weak.at hcl ?_); simp only [seval, evw, List.forall_mem_cons, List.forall_mem_map, List.forall_mem_append, List.not_mem_nil, sb, ew, ec, evs_eq, encEv_def, List.map_nil, Nat.mul_one, *]) | ((first | refine LCB.cond (by simp only [seval, evx] <;> rfl) ?_ ?_ | refine wpG_split (by simp only [seval, evx] <;> rfl) ?_ ?_ | refine wxG_split (by simp only [seval, evx] <;> rfl) ?_ ?_) <;> (intro hc; try simp only [seval, nf] at hc)) | refine ACalls.inst ?_ | refine CallX.inst ?_ | (with_reducible refine And.intro ?_ ?_) | exact True.intro)
  by_cases k3 : (1000 : Int) < (c.ans.length : Int)
  case pos => repeat' (first | simp only [seval, evx, beq_self_eq_true, sb, ew, ec, evs_eq, encEv_def, List.map_nil, Nat.mul_one, *] | simp (disch := omega) only [if_pos, if_neg] | refine R.seq ?_ | refine LCB.text ?_ | refine LCB.quiet rfl ?_ | refine R.anyX ?_ | refine R.block ?_ | refine LCB.skip ?_ | refine LCB.exit ?_ | refine LCB.ret ?_ | ((first | refine RetOk.val hcl ?_ | refine Weak.at hcl ?_); simp only [seval, evw, List.forall_mem_cons, List.forall_mem_map, List.forall_mem_append, List.not_mem_nil, sb, ew, ec, evs_eq, encEv_def, List.map_nil, Nat.mul_one, *]) | ((first | refine LCB.cond (by simp only [seval, evx] <;> rfl) ?_ ?_ | refine wpG_split (by simp only [seval, evx] <;> rfl) ?_ ?_ | refine wxG_split (by simp only [seval, evx] <;> rfl) ?_ ?_) <;> (intro hc; try simp only [seval, nf] at hc)) | refine ACalls.inst ?_ | refine CallX.inst ?_ | (with_reducible refine And.intro ?_ ?_) | exact True.intro)
  by_cases k4 : 1000 < c.fuel
  case neg => repeat' (first | simp only [seval, evx, beq_self_eq_true, sb, ew, ec, evs_eq, encEv_def, List.map_nil, Nat.mul_one, *] | simp (disch := omega) only [if_pos, if_neg] | refine R.seq ?_ | refine LCB.text ?_ | refine LCB.quiet rfl ?_ | refine R.anyX ?_ | refine R.block ?_ | refine LCB.skip ?_ | refine LCB.exit ?_ | refine LCB.ret ?_ | ((first | refine RetOk.val hcl ?_ | refine Weak.at hcl ?_); simp only [seval, evw, List.forall_mem_cons, List.forall_mem_map, List.forall_mem_append, List.not_mem_nil, sb, ew, ec, evs_eq, encEv_def, List.map_nil, Nat.mul_one, *]) | ((first | refine LCB.cond (by simp only [seval, evx] <;> rfl) ?_ ?_ | refine wpG_split (by simp only [seval, evx] <;> rfl) ?_ ?_ | refine wxG_split (by simp only [seval, evx] <;> rfl) ?_ ?_) <;> (intro hc; try simp only [seval, nf] at hc)) | refine ACalls.inst ?_ | refine CallX.inst ?_ | (with_reducible refine And.intro ?_ ?_) | exact True.intro)
  repeat' (first | simp only [seval, evx, beq_self_eq_true, sb, ew, ec, evs_eq, encEv_def, List.map_nil, Nat.mul_one, *] | simp (disch := omega) only [if_pos, if_neg] | refine R.seq ?_ | refine LCB.text ?_ | refine LCB.quiet rfl ?_ | refine R.anyX ?_ | refine R.block ?_ | refine LCB.skip ?_ | refine LCB.exit ?_ | refine LCB.ret ?_ | ((first | refine RetOk.val hcl ?_ | refine Weak.at hcl ?_); simp only [seval, evw, List.forall_mem_cons, List.forall_mem_map, List.forall_mem_append, List.not_mem_nil, sb, ew, ec, evs_eq, encEv_def, List.map_nil, Nat.mul_one, *]) | ((first | refine LCB.cond (by simp only [seval, evx] <;> rfl) ?_ ?_ | refine wpG_split (by simp only [seval, evx] <;> rfl) ?_ ?_ | refine wxG_split (by simp only [seval, evx] <;> rfl) ?_ ?_) <;> (intro hc; try simp only [seval, nf] at hc)) | refine ACalls.inst ?_ | refine CallX.inst ?_ | (with_reducible refine And.intro ?_ ?_) | exact True.intro)
set_option maxHeartbeats 2000000 in
theorem run_Begin_ok (c : Cs) (hR : c.R.length = 8) (hh : c.heap.length ≤ 1000) : Pure Tryd.prog 32 [csA c] (stA (beginS c)) := by
  intro H
  refine ACalls.go run_Begin.low (by simp) fun hcl => ?_
  have hil : (ic c.R).length = 8 := by rw [ic_len, hR]
  rw [stA_eq, csA_eq]
  have hb : (beginS c).L = bL c.R 8 := by rw [bL_end hR]; rfl
  have hb2 : (beginS c).heap = c.heap := rfl
  have hb3 : (beginS c).pc = 0 := rfl
  have hb4 : (beginS c).asked = 0 := rfl
  rw [hb, hb2, hb3, hb4]
  have rk : rowsOk 1 (c.heap.map encI) = true := rk_map fun x _ => ⟨rfl, rfl⟩
  have b1 : c.heap.length * 8 ≤ 140737488355328 := by omega
  have b2 : c.heap.length ≤ 9223372036854775807 := by omega
  have b3 : (0 + c.heap.length) * 8 ≤ 140737488355328 := by omega
  have hz : wc (bL c.R 0) = [.bool false, .int .i64 0, .bool false, .int .i64 0, .bool false, .int .i64 0, .bool false, .int .i64 0, .bool false, .int .i64 0, .bool false, .int .i64 0, .bool false, .int .i64 0, .bool false, .int .i64 0, .bool false, .int .i64 0, .bool false, .int .i64 0, .bool false, .int .i64 0, .bool false, .int .i64 0, .bool false, .int .i64 0, .bool false, .int .i64 0, .bool false, .int .i64 0, .bool false, .int .i64 0, .bool false, .int .i64 0, .bool false, .int .i64 0, .bool false, .int .i64 0, .bool false, .int .i64 0, .bool false, .int .i64 0, .bool false, .int .i64 0, .bool false, .int .i64 0, .bool false, .int .i64 0] := by rw [bL_zero]; rfl
  replace hb := Hold.mk hb
  replace hb2 := Hold.mk hb2
  replace hb3 := Hold.mk hb3
  replace hb4 := Hold.mk hb4
  replace hR := Hold.mk hR
  replace hz := Hold.mk hz
  repeat' (first | simp only [seval, evx, beq_self_eq_true, sb, ew, ec, evs_eq, encEv_def, List.map_nil, Nat.mul_one, *] | simp (disch := omega) only [if_pos, if_neg] | refine R.seq ?_ | refine LCB.text ?_ | refine LCB.quiet rfl ?_ | refine R.anyX ?_ | refine R.block ?_ | refine LCB.skip ?_ | refine LCB.exit ?_ | refine LCB.ret ?_ | ((first | refine RetOk.val hcl ?_ | refine Weak.at hcl ?_); simp only [seval, evw, List.forall_mem_cons, List.forall_mem_map, List.forall_mem_append, List.not_mem_nil, sb, ew, ec, evs_eq, encEv_def, List.map_nil, Nat.mul_one, *]) | ((first | refine LCB.cond (by simp only [seval, evx] <;> rfl) ?_ ?_ | refine wpG_split (by simp only [seval, evx] <;> rfl) ?_ ?_ | refine wxG_split (by simp only [seval, evx] <;> rfl) ?_ ?_) <;> (intro hc; try simp only [seval, nf] at hc)) | refine ACalls.inst ?_ | refine CallX.inst ?_ | (with_reducible refine And.intro ?_ ?_) | exact True.intro)
  refine R.loop (S := Nat) ⟨fun i => [(1, .ptr H.length 1 0 0), (2, .ptr (H.length + 1) 1 0 0), (3, .ptr (H.length + 3) 1 0 0), (10, .int .i64 (i : Int))], fun i => H ++ [.vec 11 [ic c.R ++ [.list (c.heap.map encI), .list (c.ans.map encI), .int .i64 c.fuel]], .vec 51 [[.bool false, .int .i64 0, .bool false, .int .i64 0, .bool false, .int .i64 0, .bool false, .int .i64 0, .bool false, .int .i64 0, .bool false, .int .i64 0, .bool false, .int .i64 0, .bool false, .int .i64 0, .bool false, .int .i64 0, .bool false, .int .i64 0, .bool false, .int .i64 0, .bool false, .int .i64 0, .bool false, .int .i64 0, .bool false, .int .i64 0, .bool false, .int .i64 0, .bool false, .int .i64 0, .bool false, .int .i64 0, .bool false, .int .i64 0, .bool false, .int .i64 0, .bool false, .int .i64 0, .bool false, .int .i64 0, .bool false, .int .i64 0, .bool false, .int .i64 0, .bool false, .int .i64 0, .imm (.slice none 0 0), .int .i64 0, .int .i64 0]], .gone, .vec 51 [wc (bL c.R i) ++ [.list (c.heap.map encI), .int .i64 0, .int .i64 0]]], fun i => i ≤ 8, fun i => 8 - i⟩ 0 (Nat.zero_le _) ?_ ?_
  · simp only [hz.of, List.cons_append, List.nil_append]
    refine Weak.loseAt _ _ ?_
    simp only [seval, evw, lk, List.forall_mem_cons, List.forall_mem_map, List.forall_mem_append, List.not_mem_nil, sb, ew, ec, evs_eq, encEv_def, List.map_nil, Nat.mul_one, *]
  intro i hi
  simp only at hi ⊢
  have hwl : (wc (bL c.R i)).length = 48 := by rw [wc_len, bL_len hR.of hi]
  by_cases hlt : i < 8
  · have e1 : (i : Int) < 8 := by omega
    have e2 : IntKind.i64.wrap ((i : Int) + 1) = ((i + 1 : Nat) : Int) := by rw [IntKind.wrap_i64]; omega
    have e3 : (i : Int) < 24 := by omega
    have e4 : i * 2 + 2 ≤ 51 := by omega
    have hg := ic_get (R := c.R) (r := [.list (c.heap.map encI), .list (c.ans.map encI), .int .i64 c.fuel]) (i := i) (by rw [hR.of]; exact hlt)
    have hp := wr_put2 (L := bL c.R i) (r := [.list (c.heap.map encI), .int .i64 0, .int .i64 0]) (i := i) ⟨true, c.R.getD i 0⟩ (by rw [bL_len hR.of hi]; omega)
    rw [bL_set hR.of hlt] at hp
    generalize c.R.getD i 0 = v at *
    simp only at hp
    repeat' (first | simp only [seval, evx, beq_self_eq_true, sb, ew, ec, evs_eq, encEv_def, List.map_nil, Nat.mul_one, *] | simp (disch := omega) only [if_pos, if_neg] | refine R.seq ?_ | refine LCB.text ?_ | refine LCB.quiet rfl ?_ | refine R.anyX ?_ | refine R.block ?_ | refine LCB.skip ?_ | refine LCB.exit ?_ | refine LCB.ret ?_ | ((first | refine RetOk.val hcl ?_ | refine Weak.at hcl ?_); simp only [seval, evw, List.forall_mem_cons, List.forall_mem_map, List.forall_mem_append, List.not_mem_nil, sb, ew, ec, evs_eq, encEv_def, List.map_nil, Nat.mul_one, *]) | ((first | refine LCB.cond (by simp only [seval, evx] <;> rfl) ?_ ?_ | refine wpG_split (by simp only [seval, evx] <;> rfl) ?_ ?_ | refine wxG_split (by simp only [seval, evx] <;> rfl) ?_ ?_) <;> (intro hc; try simp only [seval, nf] at hc)) | refine ACalls.inst ?_ | refine CallX.inst ?_ | (with_reducible refine And.intro ?_ ?_) | exact True.intro)
    refine ⟨i + 1, hlt, by simp only; omega, Weak.at hcl ?_⟩
    simp only [seval, evw, List.forall_mem_cons, List.forall_mem_map, List.forall_mem_append, List.not_mem_nil, sb, ew, ec, evs_eq, encEv_def, List.map_nil, Nat.mul_one, *]
  · have hie : i = 8 := by omega
    subst hie
    have e5 : (((8 : Nat) : Int)) = 8 := rfl
    repeat' (first | simp only [seval, evx, beq_self_eq_true, sb, ew, ec, evs_eq, encEv_def, List.map_nil, Nat.mul_one, *] | simp (disch := omega) only [if_pos, if_neg] | refine R.seq ?_ | refine LCB.text ?_ | refine LCB.quiet rfl ?_ | refine R.anyX ?_ | refine R.block ?_ | refine LCB.skip ?_ | refine LCB.exit ?_ | refine LCB.ret ?_ | ((first | refine RetOk.val hcl ?_ | refine Weak.at hcl ?_); simp only [seval, evw, List.forall_mem_cons, List.forall_mem_map, List.forall_mem_append, List.not_mem_nil, sb, ew, ec, evs_eq, encEv_def, List.map_nil, Nat.mul_one, *]) | ((first | refine LCB.cond (by simp only [seval, evx] <;> rfl) ?_ ?_ | refine wpG_split (by simp only [seval, evx] <;> rfl) ?_ ?_ | refine wxG_split (by simp only [seval, evx] <;> rfl) ?_ ?_) <;> (intro hc; try simp only [seval, nf] at hc)) | refine ACalls.inst ?_ | refine CallX.inst ?_ | (with_reducible refine And.intro ?_ ?_) | exact True.intro)
end Go.Proofs.YtbkbehkjndmabaaDoor

/-
  run: traces; the document's beginning; whether two traces are alike, whether events begin others.
-/
namespace Go.Proofs.YtbkbehkjndmabaaDoor
open Go.RowKit
set_option linter.unusedVariables false
set_option linter.unusedSimpArgs false
/-- A trace. -/
structure Tr where
  evs : List Ev
  out : Out
  steps : Int
  work : Int
deriving DecidableEq
def trA (t : Tr) : AV := .agg [evs t.evs, .int .i64 t.out.how, .int .i64 t.out.value, ints t.out.heap, .int .i64 t.steps, .int .i64 t.work]
theorem trA_eq (t : Tr) : trA t = .agg [.list (t.evs.map encEv), .int .i64 t.out.how, .int .i64 t.out.value, .list (t.out.heap.map encI), .int .i64 t.steps, .int .i64 t.work] := rfl
def tr0 : Tr := ⟨[], out0, 0, 0⟩
theorem tr0_eq : trA tr0 = .agg [.list [], .int .i64 0, .int .i64 0, .list [], .int .i64 0, .int .i64 0] := rfl
/-- A step's trace. -/
def nextT (f : List Ins) (ans : List Int) (s : St) (t : Tr) : Tr :=
  ⟨t.evs ++ (stepF f s ans).2.1, (stepF f s ans).2.2, t.steps + 1, if movesB (f.getD s.pc.toNat noIns).op then t.work else t.work + 1⟩
/-- So many steps more. -/
def onF (f : List Ins) (ans : List Int) : Nat → St → Tr → Tr × St
  | 0, s, t => (t, s)
  | n + 1, s, t => if t.out.how = 0 then onF f ans n (stepF f s ans).1 (nextT f ans s t) else (t, s)
def runF (f : List Ins) (c : Cs) : Tr × St := onF f c.ans c.fuel.toNat (beginS c) tr0
theorem tr_dec (a b : Tr) : (decide (a.evs = b.evs) && (decide (a.out = b.out) && (decide (a.steps = b.steps) && decide (a.work = b.work)))) = decide (a = b) := by
  cases a; cases b
  rw [Bool.eq_iff_iff]
  simp
theorem ref08_Same_ok (a b : Tr) (hl : a.evs.length ≤ 9223372036854775806) (hl2 : a.out.heap.length ≤ 9223372036854775806) : Pure Tryd.prog 35 [trA a, trA b] (.bool (decide (a = b))) := by
  intro H
  refine ACalls.go joineryref08_Same.low (by simp) fun hcl => ?_
  have h1 := ref07_SameEvents_ok a.evs b.evs hl
  have h2 := ref07_SameOutcome_ok a.out b.out hl2
  rw [← tr_dec]
  rw [trA_eq, trA_eq]
  rw [outA_eq, outA_eq] at h2
  rw [evs_eq, evs_eq] at h1
  generalize decide (a.evs = b.evs) = b1 at *
  generalize decide (a.out = b.out) = b2 at *
  clear hl hl2
  replace h1 := Hold.mk h1
  replace h2 := Hold.mk h2
  cases b1
  · repeat' (first | simp only [seval, evx, beq_self_eq_true, sb, ew, ec, evs_eq, encEv_def, List.map_nil, Nat.mul_one, *] | simp (disch := omega) only [if_pos, if_neg] | refine R.seq ?_ | refine LCB.text ?_ | refine LCB.quiet rfl ?_ | refine R.anyX ?_ | refine R.block ?_ | refine LCB.skip ?_ | refine LCB.exit ?_ | refine LCB.ret ?_ | ((first | refine RetOk.val hcl ?_ | refine Weak.at hcl ?_); simp only [seval, evw, List.forall_mem_cons, List.forall_mem_map, List.forall_mem_append, List.not_mem_nil, sb, ew, ec, evs_eq, encEv_def, List.map_nil, Nat.mul_one, *]) | ((first | refine LCB.cond (by simp only [seval, evx] <;> rfl) ?_ ?_ | refine wpG_split (by simp only [seval, evx] <;> rfl) ?_ ?_ | refine wxG_split (by simp only [seval, evx] <;> rfl) ?_ ?_) <;> (intro hc; try simp only [seval, nf] at hc)) | refine ACalls.inst ?_ | refine CallX.inst ?_ | (with_reducible refine And.intro ?_ ?_) | exact True.intro | refine ACalls.pure h1.of ?_ | refine CallX.pure h1.of ?_ | refine ACalls.pure h2.of ?_ | refine CallX.pure h2.of ?_)
  · cases b2
    · repeat' (first | simp only [seval, evx, beq_self_eq_true, sb, ew, ec, evs_eq, encEv_def, List.map_nil, Nat.mul_one, *] | simp (disch := omega) only [if_pos, if_neg] | refine R.seq ?_ | refine LCB.text ?_ | refine LCB.quiet rfl ?_ | refine R.anyX ?_ | refine R.block ?_ | refine LCB.skip ?_ | refine LCB.exit ?_ | refine LCB.ret ?_ | ((first | refine RetOk.val hcl ?_ | refine Weak.at hcl ?_); simp only [seval, evw, List.forall_mem_cons, List.forall_mem_map, List.forall_mem_append, List.not_mem_nil, sb, ew, ec, evs_eq, encEv_def, List.map_nil, Nat.mul_one, *]) | ((first | refine LCB.cond (by simp only [seval, evx] <;> rfl) ?_ ?_ | refine wpG_split (by simp only [seval, evx] <;> rfl) ?_ ?_ | refine wxG_split (by simp only [seval, evx] <;> rfl) ?_ ?_) <;> (intro hc; try simp only [seval, nf] at hc)) | refine ACalls.inst ?_ | refine CallX.inst ?_ | (with_reducible refine And.intro ?_ ?_) | exact True.intro | refine ACalls.pure h1.of ?_ | refine CallX.pure h1.of ?_ | refine ACalls.pure h2.of ?_ | refine CallX.pure h2.of ?_)
    · by_cases k3 : a.steps = b.steps
      · repeat' (first | simp only [seval, evx, beq_self_eq_true, sb, ew, ec, evs_eq, encEv_def, List.map_nil, Nat.mul_one, *] | simp (disch := omega) only [if_pos, if_neg] | refine R.seq ?_ | refine LCB.text ?_ | refine LCB.quiet rfl ?_ | refine R.anyX ?_ | refine R.block ?_ | refine LCB.skip ?_ | refine LCB.exit ?_ | refine LCB.ret ?_ | ((first | refine RetOk.val hcl ?_ | refine Weak.at hcl ?_); simp only [seval, evw, List.forall_mem_cons, List.forall_mem_map, List.forall_mem_append, List.not_mem_nil, sb, ew, ec, evs_eq, encEv_def, List.map_nil, Nat.mul_one, *]) | ((first | refine LCB.cond (by simp only [seval, evx] <;> rfl) ?_ ?_ | refine wpG_split (by simp only [seval, evx] <;> rfl) ?_ ?_ | refine wxG_split (by simp only [seval, evx] <;> rfl) ?_ ?_) <;> (intro hc; try simp only [seval, nf] at hc)) | refine ACalls.inst ?_ | refine CallX.inst ?_ | (with_reducible refine And.intro ?_ ?_) | exact True.intro | refine ACalls.pure h1.of ?_ | refine CallX.pure h1.of ?_ | refine ACalls.pure h2.of ?_ | refine CallX.pure h2.of ?_)
      · repeat' (first | simp only [seval, evx, beq_self_eq_true, sb, ew, ec, evs_eq, encEv_def, List.map_nil, Nat.mul_one, *] | simp (disch := omega) only [if_pos, if_neg] | refine R.seq ?_ | refine LCB.text ?_ | refine LCB.quiet rfl ?_ | refine R.anyX ?_ | refine R.block ?_ | refine LCB.skip ?_ | refine LCB.exit ?_ | refine LCB.ret ?_ | ((first | refine RetOk.val hcl ?_ | refine Weak.at hcl ?_); simp only [seval, evw, List.forall_mem_cons, List.forall_mem_map, List.forall_mem_append, List.not_mem_nil, sb, ew, ec, evs_eq, encEv_def, List.map_nil, Nat.mul_one, *]) | ((first | refine LCB.cond (by simp only [seval, evx] <;> rfl) ?_ ?_ | refine wpG_split (by simp only [seval, evx] <;> rfl) ?_ ?_ | refine wxG_split (by simp only [seval, evx] <;> rfl) ?_ ?_) <;> (intro hc; try simp only [seval, nf] at hc)) | refine ACalls.inst ?_ | refine CallX.inst ?_ | (with_reducible refine And.intro ?_ ?_) | exact True.intro | refine ACalls.pure h1.of ?_ | refine CallX.pure h1.of ?_ | refine ACalls.pure h2.of ?_ | refine CallX.pure h2.of ?_)
/-- The first words of a beginning. -/
theorem begin_at {c : Cs} {i : Nat} (hR : c.R.length = 8) (h : i < 8) : (beginS c).L.take i ++ [⟨true, c.R.getD i 0⟩] = (beginS c).L.take (i + 1) := by
  have hl : (beginS c).L.length = 24 := beginS_len hR
  rw [List.take_succ_eq_append_getElem (by omega)]
  have : (beginS c).L[i]'(by omega) = ⟨true, c.R.getD i 0⟩ := by
    simp [beginS, List.getElem_append, hR, h, List.getD, show i < c.R.length by omega]
  rw [this]
theorem begin_no {c : Cs} {i : Nat} (hR : c.R.length = 8) (h : 8 ≤ i) (h2 : i < 24) : (beginS c).L.take i ++ [noW] = (beginS c).L.take (i + 1) := by
  have hl : (beginS c).L.length = 24 := beginS_len hR
  rw [List.take_succ_eq_append_getElem (by omega)]
  have : (beginS c).L[i]'(by omega) = noW := by
    refine (List.getElem_eq_iff (by omega)).2 ?_
    show (c.R.map (fun v => (⟨true, v⟩ : W)) ++ List.replicate 16 noW)[i]? = _
    rw [List.getElem?_append_right (by simp; omega), List.getElem?_replicate, if_pos (by simp; omega)]
  rw [this]
set_option maxHeartbeats 1000000 in
theorem ref08_Begin_ok (c : Cs) (hR : c.R.length = 8) : Pure Tryd.prog 33 [csA c] (rsA (beginS c)) := by
  intro H
  refine ACalls.go joineryref08_Begin.low (by simp) fun hcl => ?_
  have hil : (ic c.R).length = 8 := by rw [ic_len, hR]
  have hb := beginS_len hR
  have hb2 : (beginS c).heap = c.heap := rfl
  have hb3 : (beginS c).pc = 0 := rfl
  have hb4 : (beginS c).asked = 0 := rfl
  rw [csA_eq, rsA_eq, hb2, hb3, hb4]
  replace hb2 := Hold.mk hb2
  replace hb3 := Hold.mk hb3
  replace hb4 := Hold.mk hb4
  replace hb := Hold.mk hb
  replace hR := Hold.mk hR
  repeat' (first | simp only [seval, evx, beq_self_eq_true, sb, ew, ec, evs_eq, encEv_def, List.map_nil, Nat.mul_one, *] | simp (disch := omega) only [if_pos, if_neg] | refine R.seq ?_ | refine LCB.text ?_ | refine LCB.quiet rfl ?_ | refine R.anyX ?_ | refine R.block ?_ | refine LCB.skip ?_ | refine LCB.exit ?_ | refine LCB.ret ?_ | ((first | refine RetOk.val hcl ?_ | refine Weak.at hcl ?_); simp only [seval, evw, List.forall_mem_cons, List.forall_mem_map, List.forall_mem_append, List.not_mem_nil, sb, ew, ec, evs_eq, encEv_def, List.map_nil, Nat.mul_one, *]) | ((first | refine LCB.cond (by simp only [seval, evx] <;> rfl) ?_ ?_ | refine wpG_split (by simp only [seval, evx] <;> rfl) ?_ ?_ | refine wxG_split (by simp only [seval, evx] <;> rfl) ?_ ?_) <;> (intro hc; try simp only [seval, nf] at hc)) | refine ACalls.inst ?_ | refine CallX.inst ?_ | (with_reducible refine And.intro ?_ ?_) | exact True.intro)
  refine R.loop (S := Nat × List W) ⟨fun y => [(1, .ptr H.length 1 0 0), (2, .ptr (H.length + 1) 1 0 0), (3, .ptr (H.length + 2) 1 0 0), (4, .int .i64 (y.1 : Int))],
    fun y => H ++ [.vec 11 [ic c.R ++ [.list (c.heap.map encI), .list (c.ans.map encI), .int .i64 c.fuel]], .vec 4 [[.imm (.slice none 0 0), .imm (.slice none 0 0), .int .i64 0, .int .i64 0]], .vec 4 [[.sl 2 (H.length + 3) y.2.length 0 y.2.length, .list (c.heap.map encI), .int .i64 0, .int .i64 0]], .vec 2 (y.2.map encW)],
    fun y => y.1 ≤ 24 ∧ y.2 = (beginS c).L.take y.1 ∧ y.2.length = y.1, fun y => 24 - y.1⟩ (0, []) ⟨Nat.zero_le _, rfl, rfl⟩ ((Weak.growRow 2 0 2 (by omega) rfl rfl).trans (Weak.at hcl ?_)) ?_
  · simp only [seval, evw, List.forall_mem_cons, List.forall_mem_map, List.forall_mem_append, List.not_mem_nil, sb, ew, ec, evs_eq, encEv_def, List.map_nil, Nat.mul_one, *]
  rintro ⟨i, out⟩ ⟨hi, hout, hol⟩
  simp only at hi hout hol ⊢
  by_cases hlt : i < 24
  · have d1 : (i : Int) < 24 := by omega
    have d2 : IntKind.i64.wrap ((i : Int) + 1) = ((i + 1 : Nat) : Int) := by rw [IntKind.wrap_i64]; omega
    have b1 : (out.length + 1) * 16 ≤ 140737488355328 := by omega
    have b2 : out.length ≤ 9223372036854775806 := by omega
    by_cases h8 : i < 8
    · have hnx := begin_at hR.of h8
      rw [← hout] at hnx
      have d3 : (i : Int) < 8 := by omega
      have hg := ic_get (R := c.R) (r := [.list (c.heap.map encI), .list (c.ans.map encI), .int .i64 c.fuel]) (i := i) (by rw [hR.of]; exact h8)
      generalize c.R.getD i 0 = v at *
      have d4 : encW ⟨true, v⟩ = [.bool true, .int .i64 v] := rfl
      replace hout := Hold.mk hout
      replace hol := Hold.mk hol
      replace hnx := Hold.mk hnx
      repeat' (first | simp only [seval, evx, beq_self_eq_true, sb, ew, ec, evs_eq, encEv_def, List.map_nil, Nat.mul_one, *] | simp (disch := omega) only [if_pos, if_neg] | refine R.seq ?_ | refine LCB.text ?_ | refine LCB.quiet rfl ?_ | refine R.anyX ?_ | refine R.block ?_ | refine LCB.skip ?_ | refine LCB.exit ?_ | refine LCB.ret ?_ | ((first | refine RetOk.val hcl ?_ | refine Weak.at hcl ?_); simp only [seval, evw, List.forall_mem_cons, List.forall_mem_map, List.forall_mem_append, List.not_mem_nil, sb, ew, ec, evs_eq, encEv_def, List.map_nil, Nat.mul_one, *]) | ((first | refine LCB.cond (by simp only [seval, evx] <;> rfl) ?_ ?_ | refine wpG_split (by simp only [seval, evx] <;> rfl) ?_ ?_ | refine wxG_split (by simp only [seval, evx] <;> rfl) ?_ ?_) <;> (intro hc; try simp only [seval, nf] at hc)) | refine ACalls.inst ?_ | refine CallX.inst ?_ | (with_reducible refine And.intro ?_ ?_) | exact True.intro)
      refine ⟨(i + 1, out ++ [⟨true, v⟩]), ⟨hlt, hnx.of, by simp only [List.length_append, List.length_cons, List.length_nil, hol.of]⟩, by simp only; omega, Weak.at hcl ?_⟩
      simp only [seval, evw, List.forall_mem_cons, List.forall_mem_map, List.forall_mem_append, List.not_mem_nil, sb, ew, ec, evs_eq, encEv_def, List.map_nil, Nat.mul_one, *]
    · have d5 : noW.is = false := rfl
      have d6 : noW.v = 0 := rfl
      have hnx := begin_no hR.of (show 8 ≤ i by omega) hlt
      rw [← hout] at hnx
      have d3 : ¬ (i : Int) < 8 := by omega
      have d4 : encW noW = [.bool false, .int .i64 0] := rfl
      replace hout := Hold.mk hout
      replace hol := Hold.mk hol
      replace hnx := Hold.mk hnx
      repeat' (first | simp only [seval, evx, beq_self_eq_true, sb, ew, ec, evs_eq, encEv_def, List.map_nil, Nat.mul_one, *] | simp (disch := omega) only [if_pos, if_neg] | refine R.seq ?_ | refine LCB.text ?_ | refine LCB.quiet rfl ?_ | refine R.anyX ?_ | refine R.block ?_ | refine LCB.skip ?_ | refine LCB.exit ?_ | refine LCB.ret ?_ | ((first | refine RetOk.val hcl ?_ | refine Weak.at hcl ?_); simp only [seval, evw, List.forall_mem_cons, List.forall_mem_map, List.forall_mem_append, List.not_mem_nil, sb, ew, ec, evs_eq, encEv_def, List.map_nil, Nat.mul_one, *]) | ((first | refine LCB.cond (by simp only [seval, evx] <;> rfl) ?_ ?_ | refine wpG_split (by simp only [seval, evx] <;> rfl) ?_ ?_ | refine wxG_split (by simp only [seval, evx] <;> rfl) ?_ ?_) <;> (intro hc; try simp only [seval, nf] at hc)) | refine ACalls.inst ?_ | refine CallX.inst ?_ | (with_reducible refine And.intro ?_ ?_) | exact True.intro)
      refine ⟨(i + 1, out ++ [noW]), ⟨hlt, hnx.of, by simp only [List.length_append, List.length_cons, List.length_nil, hol.of]⟩, by simp only; omega, Weak.at hcl ?_⟩
      simp only [seval, evw, List.forall_mem_cons, List.forall_mem_map, List.forall_mem_append, List.not_mem_nil, sb, ew, ec, evs_eq, encEv_def, List.map_nil, Nat.mul_one, *]
  · have hie : i = 24 := by omega
    subst hie
    have hx : out = (beginS c).L := by rw [hout, List.take_of_length_le (by rw [hb.of]; omega)]
    subst hx
    replace hout := Hold.mk hout
    replace hol := Hold.mk hol
    repeat' (first | simp only [seval, evx, beq_self_eq_true, sb, ew, ec, evs_eq, encEv_def, List.map_nil, Nat.mul_one, *] | simp (disch := omega) only [if_pos, if_neg] | refine R.seq ?_ | refine LCB.text ?_ | refine LCB.quiet rfl ?_ | refine R.anyX ?_ | refine R.block ?_ | refine LCB.skip ?_ | refine LCB.exit ?_ | refine LCB.ret ?_ | ((first | refine RetOk.val hcl ?_ | refine Weak.at hcl ?_); simp only [seval, evw, List.forall_mem_cons, List.forall_mem_map, List.forall_mem_append, List.not_mem_nil, sb, ew, ec, evs_eq, encEv_def, List.map_nil, Nat.mul_one, *]) | ((first | refine LCB.cond (by simp only [seval, evx] <;> rfl) ?_ ?_ | refine wpG_split (by simp only [seval, evx] <;> rfl) ?_ ?_ | refine wxG_split (by simp only [seval, evx] <;> rfl) ?_ ?_) <;> (intro hc; try simp only [seval, nf] at hc)) | refine ACalls.inst ?_ | refine CallX.inst ?_ | (with_reducible refine And.intro ?_ ?_) | exact True.intro)
end Go.Proofs.YtbkbehkjndmabaaDoor

/-
  step: more plain laws of a step.
-/
namespace Go.Proofs.YtbkbehkjndmabaaDoor
open Go.RowKit
set_option linter.unusedVariables false
set_option linter.unusedSimpArgs false
theorem to_of {x : Ins} {n : Int} (h : chk x n = 0) (ho : x.op = 16 ∨ x.op = 17) : 0 ≤ x.to ∧ x.to < n := by
  rw [chk_same] at h
  unfold chkR at h
  cases hf : badFormR x with
  | true => rw [hf, if_pos rfl] at h; simp at h
  | false =>
    cases hp : badPlaceR x with
    | true => rw [hf, hp] at h; simp at h
    | false =>
      rw [hf, hp] at h
      by_cases hb : ((x.op == 16 || x.op == 17) && farOff x n) = true
      · rw [hb] at h; simp at h
      · have h1 : (x.op == 16 || x.op == 17) = true := by rcases ho with h | h <;> simp [h]
        rw [h1, Bool.true_and] at hb
        unfold farOff at hb
        simp only [Bool.or_eq_true, decide_eq_true_eq, not_or] at hb
        omega
theorem all_set {L : List W} {i : Nat} {w : W} (h : L.all okW = true) (hw : okW w = true) : (L.set i w).all okW = true := by
  rw [List.all_eq_true] at h ⊢
  intro x hx
  rcases List.mem_or_eq_of_mem_set hx with h1 | rfl
  · exact h x h1
  · exact hw
theorem okW_getD {L : List W} (h : L.all okW = true) (i : Nat) : okW (L.getD i noW) = true := by
  rw [List.all_eq_true] at h
  rw [List.getD_eq_getElem?_getD]
  cases hi : L[i]? with
  | none => rfl
  | some w => exact h w (List.mem_of_getElem? hi)
theorem okW_is (v : Int) : okW ⟨true, v⟩ = true := rfl
/-- What an instruction that is right has. -/
theorem ins_right {f : List Ins} {s : St} (hs : stRight f s = true) : f.getD s.pc.toNat noIns ∈ f ∧ chk (f.getD s.pc.toNat noIns) (f.length : Int) = 0 ∧ ((f.getD s.pc.toNat noIns).op ≠ 16 → (f.getD s.pc.toNat noIns).op ≠ 18 → s.pc + 1 < (f.length : Int)) := by
  obtain ⟨r1, r2, r3, _⟩ := stRight_iff.1 hs
  obtain ⟨f1, f2, f3, f4⟩ := fnOk_iff.1 r1
  have hn : s.pc.toNat < f.length := by omega
  have hmem : f.getD s.pc.toNat noIns ∈ f := by simp [List.getD, hn]
  refine ⟨hmem, f3 _ hmem, fun h1 h2 => ?_⟩
  rcases Nat.lt_or_ge (s.pc.toNat + 1) f.length with h | h
  · omega
  · exfalso
    have e : s.pc.toNat = f.length - 1 := by omega
    unfold lastOp at f4
    rw [← e] at f4
    rcases f4 with h3 | h3
    · exact h1 h3
    · exact h2 h3
theorem stepW_right {f : List Ins} {s : St} {ask : List Int} (hs : stRight f s = true) (h0 : (stepW s (f.getD s.pc.toNat noIns) ask).2.2.1 = 0) : stRight f (stepW s (f.getD s.pc.toNat noIns) ask).1 = true := by
  obtain ⟨_, hc, hnext⟩ := ins_right hs
  have hto := fun ho => to_of hc ho
  obtain ⟨r1, r2, r3, r4, r5, r6⟩ := stRight_iff.1 hs
  have hheap := stepW_heap s (f.getD s.pc.toNat noIns) ask
  generalize f.getD s.pc.toNat noIns = x at *
  have key : ∀ s' : St, 0 ≤ s'.pc ∧ s'.pc < (f.length : Int) → s'.heap.length = s.heap.length → 0 ≤ s'.asked → s'.L.all okW = true → stRight f s' = true := fun s' h1 h2 h3 h4 => stRight_iff.2 ⟨r1, h1.1, h1.2, by omega, h3, h4⟩
  unfold stepW at h0 hheap ⊢
  simp only at h0 hheap ⊢
  by_cases o13 : x.op = 13
  · rw [if_pos o13] at h0 hheap ⊢
    have := hnext (by omega) (by omega)
    split at h0
    · rename_i hh
      rw [if_pos hh] at hheap ⊢
      refine key _ ⟨by simp only; omega, by simp only; omega⟩ hheap (by simp only [setS_asked]; omega) ?_
      simp only [setS, if_true]
      exact all_set r6 (okW_is _)
    · rename_i hh; exact absurd h0 hh
  rw [if_neg o13] at h0 hheap ⊢
  by_cases o14 : x.op = 14
  · rw [if_pos o14] at h0 hheap ⊢
    have := hnext (by omega) (by omega)
    split at h0
    · rename_i hh
      rw [if_pos hh] at hheap ⊢
      exact key _ ⟨by simp only; omega, by simp only; omega⟩ hheap r5 r6
    · rename_i hh; exact absurd h0 hh
  rw [if_neg o14] at h0 hheap ⊢
  by_cases o15 : x.op = 15
  · rw [if_pos o15] at h0 hheap ⊢
    have := hnext (by omega) (by omega)
    split at h0
    · rename_i hh
      rw [if_pos hh] at hheap ⊢
      refine key _ ⟨by simp only; omega, by simp only; omega⟩ hheap (by simp only [callS]; omega) ?_
      simp only [callS]
      exact all_set r6 (okW_is _)
    · simp at h0
  rw [if_neg o15] at h0 hheap ⊢
  by_cases o18 : x.op = 18
  · rw [if_pos o18] at h0; simp at h0
  rw [if_neg o18] at h0 hheap ⊢
  by_cases o17 : x.op = 17
  · rw [if_pos o17] at h0 hheap ⊢
    have h1 := hnext (by omega) (by omega)
    have h2 := hto (.inr o17)
    refine key _ ?_ rfl r5 r6
    simp only
    split <;> omega
  rw [if_neg o17] at h0 hheap ⊢
  by_cases o16 : x.op = 16
  · rw [if_pos o16] at h0 hheap ⊢
    have h2 := hto (.inl o16)
    exact key _ ⟨by simp only; omega, by simp only; omega⟩ rfl r5 r6
  rw [if_neg o16] at h0 hheap ⊢
  have h1 := hnext o16 o18
  by_cases om : x.op = 1 ∨ x.op = 2 ∨ x.op = 3
  · rw [if_pos om] at h0 hheap ⊢
    refine key _ ⟨by simp only; omega, by simp only; omega⟩ hheap (by simp only [moveS_asked]; omega) ?_
    simp only [moveS]
    split
    · exact all_set r6 (okW_is _)
    · split
      · exact all_set r6 (okW_getD r6 _)
      · split
        · exact all_set (all_set r6 (okW_getD r6 _)) (okW_getD r6 _)
        · exact r6
  rw [if_neg om] at h0 hheap ⊢
  split at h0
  · rename_i hh
    rw [if_pos hh] at hheap ⊢
    refine key _ ⟨by simp only; omega, by simp only; omega⟩ hheap (by simp only [setS_asked]; omega) ?_
    simp only [setS, if_true]
    exact all_set r6 (okW_is _)
  · rename_i hh; exact absurd h0 hh
theorem stepF_right {f : List Ins} {s : St} {ask : List Int} (hs : stRight f s = true) (h0 : (stepF f s ask).2.2.how = 0) : stRight f (stepF f s ask).1 = true := by
  unfold stepF at h0 ⊢
  split at h0
  · rename_i h
    rw [if_pos h]
    exact stepW_right hs h0
  · simp at h0
end Go.Proofs.YtbkbehkjndmabaaDoor

/-
  run: a run.
-/
namespace Go.Proofs.YtbkbehkjndmabaaDoor
open Go.RowKit
set_option linter.unusedVariables false
set_option linter.unusedSimpArgs false
theorem beginS_right {f : List Ins} {c : Cs} (h1 : fnOk f = true) (h2 : csRight c = true) (hf : 0 < f.length) : stRight f (beginS c) = true := by
  unfold csRight at h2
  simp only [Bool.and_eq_true, decide_eq_true_eq] at h2
  refine stRight_iff.2 ⟨h1, Int.le_refl 0, ?_, h2.1, Int.le_refl 0, ?_⟩
  · show (0 : Int) < _
    omega
  · rw [List.all_eq_true]
    intro w hw
    have hw : w ∈ c.R.map (fun v => (⟨true, v⟩ : W)) ++ List.replicate 16 noW := hw
    rw [List.mem_append] at hw
    rcases hw with h | h
    · obtain ⟨v, _, rfl⟩ := List.mem_map.1 h
      rfl
    · rw [(List.mem_replicate.1 h).2]
      rfl
theorem z51_cl {m : Nat} : cleanAll m z51 = true := rfl
theorem z51_dr : z51.drop 51 = [] := rfl
theorem z51_ac : allCells z51 = true := rfl
theorem z51_ln : z51.length = 51 := rfl
def runA (f : List Ins) (c : Cs) : AV := if fnOk f && csRight c then .tup [trA (runF f c).1, stA (runF f c).2, .int .i64 0] else .tup [trA tr0, stA st0, .int .i64 1]
set_option maxHeartbeats 8000000 in
theorem run_Run_ok (f : List Ins) (c : Cs) (hR : c.R.length = 8) (hf : f.length ≤ 9223372036854775807) : Pure Tryd.prog 29 [encFn f, csA c] (runA f c) := by
  intro H
  refine ACalls.go run_Run.low (by simp) fun hcl => ?_
  have hil : (ic c.R).length = 8 := by rw [ic_len, hR]
  have h1 := asm_Right_ok f
  have h2 := run_Right_ok c hR
  unfold runA
  by_cases k1 : fnOk f = true
  case neg =>
    have k2 : fnOk f = false := by simpa using k1
    rw [k2] at h1 ⊢
    rw [Bool.false_and, if_neg (by decide), tr0_eq, st0_eq]
    rw [csA_eq] at *
    unfold encFn at *
    clear h2 k1 k2 hf
    replace h1 := Hold.mk h1
    replace hR := Hold.mk hR
    repeat' (first | simp only [seval, evx, beq_self_eq_true, sb, ew, ec, z51_cl, z51_dr, z51_ac, z51_ln, evs_eq, encEv_def, List.map_nil, Nat.mul_one, *] | simp (disch := omega) only [if_pos, if_neg] | refine R.seq ?_ | refine LCB.text ?_ | refine LCB.quiet rfl ?_ | refine R.anyX ?_ | refine R.block ?_ | refine LCB.skip ?_ | refine LCB.exit ?_ | refine LCB.ret ?_ | ((first | refine RetOk.val hcl ?_ | refine Weak.at hcl ?_); simp only [seval, evw, List.forall_mem_cons, List.forall_mem_map, List.forall_mem_append, List.not_mem_nil, sb, ew, ec, z51_cl, z51_dr, z51_ac, z51_ln, evs_eq, encEv_def, List.map_nil, Nat.mul_one, *]) | ((first | refine LCB.cond (by simp only [seval, evx] <;> rfl) ?_ ?_ | refine wpG_split (by simp only [seval, evx] <;> rfl) ?_ ?_ | refine wxG_split (by simp only [seval, evx] <;> rfl) ?_ ?_) <;> (intro hc; try simp only [seval, nf] at hc)) | refine ACalls.inst ?_ | refine CallX.inst ?_ | (with_reducible refine And.intro ?_ ?_) | exact True.intro | refine ACalls.pure h1.of ?_ | refine CallX.pure h1.of ?_ | refine ACalls.pure h2.of ?_ | refine CallX.pure h2.of ?_ | refine ACalls.pure h3.of ?_ | refine CallX.pure h3.of ?_ | refine ACalls.pure hdo.of ?_ | refine CallX.pure hdo.of ?_)
  by_cases k2 : csRight c = true
  case neg =>
    have k3 : csRight c = false := by simpa using k2
    rw [k3] at h2 ⊢
    rw [k1] at h1 ⊢
    rw [Bool.and_false, if_neg (by decide), tr0_eq, st0_eq]
    rw [csA_eq] at *
    unfold encFn at *
    clear k1 k2 k3 hf
    replace h1 := Hold.mk h1
    replace h2 := Hold.mk h2
    replace hR := Hold.mk hR
    repeat' (first | simp only [seval, evx, beq_self_eq_true, sb, ew, ec, z51_cl, z51_dr, z51_ac, z51_ln, evs_eq, encEv_def, List.map_nil, Nat.mul_one, *] | simp (disch := omega) only [if_pos, if_neg] | refine R.seq ?_ | refine LCB.text ?_ | refine LCB.quiet rfl ?_ | refine R.anyX ?_ | refine R.block ?_ | refine LCB.skip ?_ | refine LCB.exit ?_ | refine LCB.ret ?_ | ((first | refine RetOk.val hcl ?_ | refine Weak.at hcl ?_); simp only [seval, evw, List.forall_mem_cons, List.forall_mem_map, List.forall_mem_append, List.not_mem_nil, sb, ew, ec, z51_cl, z51_dr, z51_ac, z51_ln, evs_eq, encEv_def, List.map_nil, Nat.mul_one, *]) | ((first | refine LCB.cond (by simp only [seval, evx] <;> rfl) ?_ ?_ | refine wpG_split (by simp only [seval, evx] <;> rfl) ?_ ?_ | refine wxG_split (by simp only [seval, evx] <;> rfl) ?_ ?_) <;> (intro hc; try simp only [seval, nf] at hc)) | refine ACalls.inst ?_ | refine CallX.inst ?_ | (with_reducible refine And.intro ?_ ?_) | exact True.intro | refine ACalls.pure h1.of ?_ | refine CallX.pure h1.of ?_ | refine ACalls.pure h2.of ?_ | refine CallX.pure h2.of ?_ | refine ACalls.pure h3.of ?_ | refine CallX.pure h3.of ?_ | refine ACalls.pure hdo.of ?_ | refine CallX.pure hdo.of ?_)
  have k3 := k2
  unfold csRight at k3
  simp only [Bool.and_eq_true, decide_eq_true_eq] at k3
  obtain ⟨q1, q2, q3, q4⟩ := k3
  have h3 := run_Begin_ok c hR (by omega)
  have hlen := beginS_len hR
  have hf0 : 0 < f.length := by
    cases f
    · exact absurd k1 (by decide)
    · exact Nat.succ_pos _
  have hbr := beginS_right k1 k2 hf0
  rw [k1] at h1 ⊢
  rw [k2] at h2 ⊢
  rw [Bool.and_true, if_pos rfl]
  have hq : onF f c.ans c.fuel.toNat (beginS c) tr0 = runF f c := rfl
  clear k1 k2
  generalize beginS c = s0 at *
  generalize runF f c = RES at *
  obtain ⟨F, hF⟩ := Int.eq_ofNat_of_zero_le q3
  obtain ⟨Rg, hp, ans, fuel⟩ := c
  simp only at hF q1 q2 q4 hq hR hil
  subst hF
  rw [Int.toNat_natCast] at hq
  have hsl : (wc s0.L).length = 48 := by rw [wc_len, hlen]
  rw [csA_eq] at *
  unfold encFn at *
  rw [stA_eq s0] at h3
  simp only at h2 h3
  replace h1 := Hold.mk h1
  replace h2 := Hold.mk h2
  replace h3 := Hold.mk h3
  replace hR := Hold.mk hR
  replace hq := Hold.mk hq
  replace hbr := Hold.mk hbr
  replace hlen := Hold.mk hlen
  clear q3
  repeat' (first | simp only [seval, evx, beq_self_eq_true, sb, ew, ec, z51_cl, z51_dr, z51_ac, z51_ln, evs_eq, encEv_def, List.map_nil, Nat.mul_one, *] | simp (disch := omega) only [if_pos, if_neg] | refine R.seq ?_ | refine LCB.text ?_ | refine LCB.quiet rfl ?_ | refine R.anyX ?_ | refine R.block ?_ | refine LCB.skip ?_ | refine LCB.exit ?_ | refine LCB.ret ?_ | ((first | refine RetOk.val hcl ?_ | refine Weak.at hcl ?_); simp only [seval, evw, List.forall_mem_cons, List.forall_mem_map, List.forall_mem_append, List.not_mem_nil, sb, ew, ec, z51_cl, z51_dr, z51_ac, z51_ln, evs_eq, encEv_def, List.map_nil, Nat.mul_one, *]) | ((first | refine LCB.cond (by simp only [seval, evx] <;> rfl) ?_ ?_ | refine wpG_split (by simp only [seval, evx] <;> rfl) ?_ ?_ | refine wxG_split (by simp only [seval, evx] <;> rfl) ?_ ?_) <;> (intro hc; try simp only [seval, nf] at hc)) | refine ACalls.inst ?_ | refine CallX.inst ?_ | (with_reducible refine And.intro ?_ ?_) | exact True.intro | refine ACalls.pure h1.of ?_ | refine CallX.pure h1.of ?_ | refine ACalls.pure h2.of ?_ | refine CallX.pure h2.of ?_ | refine ACalls.pure h3.of ?_ | refine CallX.pure h3.of ?_ | refine ACalls.pure hdo.of ?_ | refine CallX.pure hdo.of ?_)
  refine R.loop (S := Nat × St × Tr) ⟨fun y => [(0, .list (f.map encIns)), (3, .ptr H.length 1 0 0), (4, .ptr (H.length + 1) 1 0 0), (5, .ptr (H.length + 2) 1 0 0), (7, .ptr (H.length + 3) 1 0 0), (8, .ptr (H.length + 4) 1 0 0), (26, .int .i64 (F : Int)), (27, .int .i64 (y.1 : Int))],
    fun y => H ++ [.vec 11 [ic Rg ++ [.list (hp.map encI), .list (ans.map encI), .int .i64 (F : Int)]], .vec 6 [[.imm (.slice none 0 0), .int .i64 0, .int .i64 0, .imm (.slice none 0 0), .int .i64 0, .int .i64 0]], .vec 51 [z51], .vec 6 [[.sl 3 (H.length + 5) y.2.2.evs.length 0 y.2.2.evs.length, .int .i64 y.2.2.out.how, .int .i64 y.2.2.out.value, .list (y.2.2.out.heap.map encI), .int .i64 y.2.2.steps, .int .i64 y.2.2.work]], .vec 51 [wc y.2.1.L ++ [.list (y.2.1.heap.map encI), .int .i64 y.2.1.pc, .int .i64 y.2.1.asked]], .vec 3 (y.2.2.evs.map encEv)],
    fun y => y.1 ≤ F ∧ stRight f y.2.1 = true ∧ y.2.2.out.how = 0 ∧ onF f ans (F - y.1) y.2.1 y.2.2 = RES ∧ y.2.2.steps = (y.1 : Int) ∧ y.2.2.evs.length ≤ y.1 ∧ 0 ≤ y.2.2.work ∧ y.2.2.work ≤ (y.1 : Int) ∧ y.2.1.L.length = 24, fun y => F - y.1⟩ (0, s0, tr0) ⟨Nat.zero_le _, hbr.of, rfl, hq.of, rfl, Nat.zero_le _, Int.le_refl 0, Int.le_refl 0, hlen.of⟩ ((Weak.growRow 3 0 3 (by omega) rfl rfl).trans ?_) ?_
  · refine Weak.loseAt _ _ ?_
    simp only [z51_eq, tr0, out0, List.map_nil, List.length_nil]
    simp only [seval, evw, lk, List.forall_mem_cons, List.forall_mem_map, List.forall_mem_append, List.not_mem_nil, sb, ew, ec, z51_cl, z51_dr, z51_ac, z51_ln, evs_eq, encEv_def, List.map_nil, Nat.mul_one, *]
  rintro ⟨i, s, t⟩ ⟨hi, hs, ht0, hq, hst, hev, hw1, hw2, hl⟩
  simp only at hi hs ht0 hq hst hev hw1 hw2 hl ⊢
  have hwl : (wc s.L).length = 48 := by rw [wc_len, hl]
  by_cases hlt : i < F
  · have e1 : (i : Int) < (F : Int) := by omega
    have e2 : IntKind.i64.wrap ((i : Int) + 1) = ((i + 1 : Nat) : Int) := by rw [IntKind.wrap_i64]; omega
    have e3 : IntKind.i64.wrap (t.steps + 1) = t.steps + 1 := by rw [IntKind.wrap_i64]; omega
    have e4 : IntKind.i64.wrap (t.work + 1) = t.work + 1 := by rw [IntKind.wrap_i64]; omega
    have hdo := step_Do_ok f s ans hl (by omega)
    unfold stepA at hdo
    rw [if_pos hs] at hdo
    have hsr := fun h => stepF_right (f := f) (s := s) (ask := ans) hs h
    have hl1 := stepF_len f s ans
    have hl2 := stepF_evs f s ans
    obtain ⟨r1, r2, r3, r4, r5, r6⟩ := stRight_iff.1 hs
    have hmv : (movesB (f.getD s.pc.toNat noIns).op = true ∧ nextT f ans s t = ⟨t.evs ++ (stepF f s ans).2.1, (stepF f s ans).2.2, t.steps + 1, t.work⟩) ∨ (movesB (f.getD s.pc.toNat noIns).op = false ∧ nextT f ans s t = ⟨t.evs ++ (stepF f s ans).2.1, (stepF f s ans).2.2, t.steps + 1, t.work + 1⟩) := by
      unfold nextT
      cases movesB (f.getD s.pc.toNat noIns).op
      · exact .inr ⟨rfl, rfl⟩
      · exact .inl ⟨rfl, rfl⟩
    have hnx : F - i = (F - (i + 1)) + 1 := by omega
    rw [hnx, onF, if_pos ht0] at hq
    generalize hT : nextT f ans s t = t' at *
    clear hT
    generalize stepF f s ans = r at *
    obtain ⟨s', ev, o⟩ := r
    simp only at hdo hsr hl1 hl2 hmv hq
    obtain ⟨L, heap, pc, asked⟩ := s
    simp only at hwl r2 r3 hl hmv hl1
    obtain ⟨n, rfl⟩ := Int.eq_ofNat_of_zero_le r2
    have hn : n < f.length := by omega
    have hg := getD_encIns hn
    have e5 : (n : Int) < (f.length : Int) := by omega
    simp only [Int.toNat_natCast] at hmv
    generalize f.getD n noIns = x at *
    obtain ⟨op, xd, xa, xb, xn, xto⟩ := x
    simp only at hmv
    have he : encIns ⟨op, xd, xa, xb, xn, xto⟩ = [.int .i64 op, .int .i64 xd, .int .i64 xa, .int .i64 xb, .int .i64 xn, .int .i64 xto] := rfl
    rw [he] at hg
    replace he := Hold.mk he
    have rk : rowsOk 3 (ev.map encEv) = true := rk_map fun x _ => ⟨rfl, rfl⟩
    have hel : (t.evs ++ ev).length = t.evs.length + ev.length := List.length_append
    obtain ⟨tev, ⟨th, tv, thp⟩, tst, twk⟩ := t
    simp only at ht0 hst hev hw1 hw2 e3 e4 hel hmv
    have tk : List.take (tev.length + ev.length) (tev.map encEv ++ ev.map encEv) = tev.map encEv ++ ev.map encEv := List.take_of_length_le (by simp)
    have b1 : (tev.length + ev.length) * 24 ≤ 140737488355328 := by omega
    have b2 : tev.length + ev.length ≤ 9223372036854775806 := by omega
    have b3 : tev.length + ev.length ≤ i + 1 := by omega
    clear r1 r2 r3 r4 r5 r6 hs hn hev
    subst ht0
    have hl3 : s'.L.length = 24 := by rw [hl1, hl]
    have hwl3 : (wc s'.L).length = 48 := by rw [wc_len, hl3]
    obtain ⟨oh, ov, ohp⟩ := o
    simp only at hsr hmv
    simp only [stA_eq, outA_eq, evs_eq] at hdo
    unfold encFn ints at hdo
    replace hdo := Hold.mk hdo
    replace hl := Hold.mk hl
    replace hl1 := Hold.mk hl1
    replace hl2 := Hold.mk hl2
    replace hl3 := Hold.mk hl3
    replace hnx := Hold.mk hnx
    replace hq := Hold.mk hq
    replace hsr := Hold.mk hsr
    replace hst := Hold.mk hst
    replace hbr := Hold.mk hbr
    replace hel := Hold.mk hel
    replace hw1 := Hold.mk hw1
    replace hw2 := Hold.mk hw2
    replace b3 := Hold.mk b3
    by_cases ho : oh = 0
    · subst ho
      rcases hmv with ⟨hm, hT⟩ | ⟨hm, hT⟩
      · replace hT := Hold.mk hT
        repeat' (first | simp only [seval, evx, beq_self_eq_true, sb, ew, ec, z51_cl, z51_dr, z51_ac, z51_ln, evs_eq, encEv_def, List.map_nil, Nat.mul_one, *] | simp (disch := omega) only [if_pos, if_neg] | refine R.seq ?_ | refine LCB.text ?_ | refine LCB.quiet rfl ?_ | refine R.anyX ?_ | refine R.block ?_ | refine LCB.skip ?_ | refine LCB.exit ?_ | refine LCB.ret ?_ | ((first | refine RetOk.val hcl ?_ | refine Weak.at hcl ?_); simp only [seval, evw, List.forall_mem_cons, List.forall_mem_map, List.forall_mem_append, List.not_mem_nil, sb, ew, ec, z51_cl, z51_dr, z51_ac, z51_ln, evs_eq, encEv_def, List.map_nil, Nat.mul_one, *]) | ((first | refine LCB.cond (by simp only [seval, evx] <;> rfl) ?_ ?_ | refine wpG_split (by simp only [seval, evx] <;> rfl) ?_ ?_ | refine wxG_split (by simp only [seval, evx] <;> rfl) ?_ ?_) <;> (intro hc; try simp only [seval, nf] at hc)) | refine ACalls.inst ?_ | refine CallX.inst ?_ | (with_reducible refine And.intro ?_ ?_) | exact True.intro | refine ACalls.pure h1.of ?_ | refine CallX.pure h1.of ?_ | refine ACalls.pure h2.of ?_ | refine CallX.pure h2.of ?_ | refine ACalls.pure h3.of ?_ | refine CallX.pure h3.of ?_ | refine ACalls.pure hdo.of ?_ | refine CallX.pure hdo.of ?_)
        refine ⟨(i + 1, s', t'), ⟨hlt, hsr.of rfl, by rw [hT.of], hq.of, by rw [hT.of]; show tst + 1 = _; rw [hst.of]; rfl, by rw [hT.of]; show (tev ++ ev).length ≤ _; rw [hel.of]; exact b3.of, by rw [hT.of]; exact hw1.of, by rw [hT.of]; show twk ≤ _; have := hw2.of; omega, hl3.of⟩, by simp only; omega, ?_⟩
        rw [hT.of]
        refine Weak.at hcl ?_
        simp only [seval, evw, List.forall_mem_cons, List.forall_mem_map, List.forall_mem_append, List.not_mem_nil, sb, ew, ec, z51_cl, z51_dr, z51_ac, z51_ln, evs_eq, encEv_def, List.map_nil, Nat.mul_one, *]
      · replace hT := Hold.mk hT
        repeat' (first | simp only [seval, evx, beq_self_eq_true, sb, ew, ec, z51_cl, z51_dr, z51_ac, z51_ln, evs_eq, encEv_def, List.map_nil, Nat.mul_one, *] | simp (disch := omega) only [if_pos, if_neg] | refine R.seq ?_ | refine LCB.text ?_ | refine LCB.quiet rfl ?_ | refine R.anyX ?_ | refine R.block ?_ | refine LCB.skip ?_ | refine LCB.exit ?_ | refine LCB.ret ?_ | ((first | refine RetOk.val hcl ?_ | refine Weak.at hcl ?_); simp only [seval, evw, List.forall_mem_cons, List.forall_mem_map, List.forall_mem_append, List.not_mem_nil, sb, ew, ec, z51_cl, z51_dr, z51_ac, z51_ln, evs_eq, encEv_def, List.map_nil, Nat.mul_one, *]) | ((first | refine LCB.cond (by simp only [seval, evx] <;> rfl) ?_ ?_ | refine wpG_split (by simp only [seval, evx] <;> rfl) ?_ ?_ | refine wxG_split (by simp only [seval, evx] <;> rfl) ?_ ?_) <;> (intro hc; try simp only [seval, nf] at hc)) | refine ACalls.inst ?_ | refine CallX.inst ?_ | (with_reducible refine And.intro ?_ ?_) | exact True.intro | refine ACalls.pure h1.of ?_ | refine CallX.pure h1.of ?_ | refine ACalls.pure h2.of ?_ | refine CallX.pure h2.of ?_ | refine ACalls.pure h3.of ?_ | refine CallX.pure h3.of ?_ | refine ACalls.pure hdo.of ?_ | refine CallX.pure hdo.of ?_)
        refine ⟨(i + 1, s', t'), ⟨hlt, hsr.of rfl, by rw [hT.of], hq.of, by rw [hT.of]; show tst + 1 = _; rw [hst.of]; rfl, by rw [hT.of]; show (tev ++ ev).length ≤ _; rw [hel.of]; exact b3.of, by rw [hT.of]; show 0 ≤ twk + 1; have := hw1.of; omega, by rw [hT.of]; show twk + 1 ≤ _; have := hw2.of; omega, hl3.of⟩, by simp only; omega, ?_⟩
        rw [hT.of]
        refine Weak.at hcl ?_
        simp only [seval, evw, List.forall_mem_cons, List.forall_mem_map, List.forall_mem_append, List.not_mem_nil, sb, ew, ec, z51_cl, z51_dr, z51_ac, z51_ln, evs_eq, encEv_def, List.map_nil, Nat.mul_one, *]
    · have hqq : (t', s') = RES := by
        have hx := hq.of
        have hto : ¬ t'.out.how = 0 := by
          rcases hmv with ⟨_, hT⟩ | ⟨_, hT⟩ <;> rw [hT] <;> exact ho
        generalize F - (i + 1) = m at hx
        cases m
        · exact hx
        · rw [onF, if_neg hto] at hx
          exact hx
      subst hqq
      clear hq
      rcases hmv with ⟨hm, hT⟩ | ⟨hm, hT⟩
      · subst hT
        simp only [trA_eq, stA_eq]
        repeat' (first | simp only [seval, evx, beq_self_eq_true, sb, ew, ec, z51_cl, z51_dr, z51_ac, z51_ln, evs_eq, encEv_def, List.map_nil, Nat.mul_one, *] | simp (disch := omega) only [if_pos, if_neg] | refine R.seq ?_ | refine LCB.text ?_ | refine LCB.quiet rfl ?_ | refine R.anyX ?_ | refine R.block ?_ | refine LCB.skip ?_ | refine LCB.exit ?_ | refine LCB.ret ?_ | ((first | refine RetOk.val hcl ?_ | refine Weak.at hcl ?_); simp only [seval, evw, List.forall_mem_cons, List.forall_mem_map, List.forall_mem_append, List.not_mem_nil, sb, ew, ec, z51_cl, z51_dr, z51_ac, z51_ln, evs_eq, encEv_def, List.map_nil, Nat.mul_one, *]) | ((first | refine LCB.cond (by simp only [seval, evx] <;> rfl) ?_ ?_ | refine wpG_split (by simp only [seval, evx] <;> rfl) ?_ ?_ | refine wxG_split (by simp only [seval, evx] <;> rfl) ?_ ?_) <;> (intro hc; try simp only [seval, nf] at hc)) | refine ACalls.inst ?_ | refine CallX.inst ?_ | (with_reducible refine And.intro ?_ ?_) | exact True.intro | refine ACalls.pure h1.of ?_ | refine CallX.pure h1.of ?_ | refine ACalls.pure h2.of ?_ | refine CallX.pure h2.of ?_ | refine ACalls.pure h3.of ?_ | refine CallX.pure h3.of ?_ | refine ACalls.pure hdo.of ?_ | refine CallX.pure hdo.of ?_)
      · subst hT
        simp only [trA_eq, stA_eq]
        repeat' (first | simp only [seval, evx, beq_self_eq_true, sb, ew, ec, z51_cl, z51_dr, z51_ac, z51_ln, evs_eq, encEv_def, List.map_nil, Nat.mul_one, *] | simp (disch := omega) only [if_pos, if_neg] | refine R.seq ?_ | refine LCB.text ?_ | refine LCB.quiet rfl ?_ | refine R.anyX ?_ | refine R.block ?_ | refine LCB.skip ?_ | refine LCB.exit ?_ | refine LCB.ret ?_ | ((first | refine RetOk.val hcl ?_ | refine Weak.at hcl ?_); simp only [seval, evw, List.forall_mem_cons, List.forall_mem_map, List.forall_mem_append, List.not_mem_nil, sb, ew, ec, z51_cl, z51_dr, z51_ac, z51_ln, evs_eq, encEv_def, List.map_nil, Nat.mul_one, *]) | ((first | refine LCB.cond (by simp only [seval, evx] <;> rfl) ?_ ?_ | refine wpG_split (by simp only [seval, evx] <;> rfl) ?_ ?_ | refine wxG_split (by simp only [seval, evx] <;> rfl) ?_ ?_) <;> (intro hc; try simp only [seval, nf] at hc)) | refine ACalls.inst ?_ | refine CallX.inst ?_ | (with_reducible refine And.intro ?_ ?_) | exact True.intro | refine ACalls.pure h1.of ?_ | refine CallX.pure h1.of ?_ | refine ACalls.pure h2.of ?_ | refine CallX.pure h2.of ?_ | refine ACalls.pure h3.of ?_ | refine CallX.pure h3.of ?_ | refine ACalls.pure hdo.of ?_ | refine CallX.pure hdo.of ?_)
  · have hie : i = F := by omega
    subst hie
    have e1 : ¬ (i : Int) < (i : Int) := Int.lt_irrefl _
    rw [Nat.sub_self] at hq
    have hqq : (t, s) = RES := hq
    subst hqq
    simp only [trA_eq, stA_eq]
    replace hs := Hold.mk hs
    replace hst := Hold.mk hst
    replace hq := Hold.mk hq
    replace hl := Hold.mk hl
    replace hbr := Hold.mk hbr
    repeat' (first | simp only [seval, evx, beq_self_eq_true, sb, ew, ec, z51_cl, z51_dr, z51_ac, z51_ln, evs_eq, encEv_def, List.map_nil, Nat.mul_one, *] | simp (disch := omega) only [if_pos, if_neg] | refine R.seq ?_ | refine LCB.text ?_ | refine LCB.quiet rfl ?_ | refine R.anyX ?_ | refine R.block ?_ | refine LCB.skip ?_ | refine LCB.exit ?_ | refine LCB.ret ?_ | ((first | refine RetOk.val hcl ?_ | refine Weak.at hcl ?_); simp only [seval, evw, List.forall_mem_cons, List.forall_mem_map, List.forall_mem_append, List.not_mem_nil, sb, ew, ec, z51_cl, z51_dr, z51_ac, z51_ln, evs_eq, encEv_def, List.map_nil, Nat.mul_one, *]) | ((first | refine LCB.cond (by simp only [seval, evx] <;> rfl) ?_ ?_ | refine wpG_split (by simp only [seval, evx] <;> rfl) ?_ ?_ | refine wxG_split (by simp only [seval, evx] <;> rfl) ?_ ?_) <;> (intro hc; try simp only [seval, nf] at hc)) | refine ACalls.inst ?_ | refine CallX.inst ?_ | (with_reducible refine And.intro ?_ ?_) | exact True.intro | refine ACalls.pure h1.of ?_ | refine CallX.pure h1.of ?_ | refine ACalls.pure h2.of ?_ | refine CallX.pure h2.of ?_ | refine ACalls.pure h3.of ?_ | refine CallX.pure h3.of ?_ | refine ACalls.pure hdo.of ?_ | refine CallX.pure hdo.of ?_)
end Go.Proofs.YtbkbehkjndmabaaDoor

/-
  run: the document's run.
-/
namespace Go.Proofs.YtbkbehkjndmabaaDoor
open Go.RowKit
set_option linter.unusedVariables false
set_option linter.unusedSimpArgs false
theorem Views.cellsOf {H : List AObj} {m : Nat} : ∀ {xs bs : List AV}, Views H m xs bs → bs.length = xs.length ∧ ∀ (j : Nat) (b : AV), bs[j]? = some b → ∃ a, xs[j]? = some a ∧ View H m a b
  | [], bs, h => by
    cases h
    exact ⟨rfl, fun j b h => by simp at h⟩
  | a :: xs, bs, h => by
    cases h with
    | cons _ b _ bs h hs =>
      obtain ⟨h1, h2⟩ := Views.cellsOf hs
      refine ⟨by simp [h1], fun j x hx => ?_⟩
      cases j with
      | zero =>
        simp at hx
        subst hx
        exact ⟨a, rfl, h⟩
      | succ j => exact h2 j x (by simpa using hx)
/-- A row whose cells may be said to be less. -/
theorem ObjV.row {H : List AObj} {m z : Nat} {a b : List AV} (hl : a.length = z) (h : Views H m a b) : ObjV H m (.vec z [a]) (.vec z [b]) := by
  obtain ⟨h1, h2⟩ := h.cellsOf
  refine .inr ⟨z, [a], [b], rfl, rfl, rfl, by simp [h1, hl], fun i j x hx => ?_⟩
  match i with
  | 0 =>
    simp [cellAt] at hx ⊢
    exact h2 j x hx
  | i + 1 => simp [cellAt] at hx
set_option maxHeartbeats 8000000 in
theorem ref08_On_ok (f : List Ins) (s0 : St) (t0 : Tr) (ans : List Int) (F : Nat) (hL : s0.L.length = 24) (hask : ans.length ≤ 1000000) (hf : f.length ≤ 9223372036854775807)
    (hs0 : t0.out.how = 0 → stRight f s0 = true) (hev : t0.evs.length + F ≤ 100000) (hs1 : 0 ≤ t0.steps) (hs2 : t0.steps + (F : Int) ≤ 100000) (hw1 : 0 ≤ t0.work) (hw2 : t0.work + (F : Int) ≤ 100000) :
    Pure Tryd.prog 38 [encFn f, rsA s0, trA t0, ints ans, .int .i64 (F : Int)] (.tup [trA (onF f ans F s0 t0).1, rsA (onF f ans F s0 t0).2]) := by
  intro H
  refine ACalls.go joineryref08_On.low (by simp) fun hcl => ?_
  obtain ⟨RES, hq⟩ : ∃ RES, onF f ans F s0 t0 = RES := ⟨_, rfl⟩
  rw [hq]
  rw [rsA_eq s0, trA_eq t0]
  unfold encFn ints
  replace hq := Hold.mk hq
  replace hL := Hold.mk hL
  replace hs0 := Hold.mk hs0
  replace hev := Hold.mk hev
  replace hs1 := Hold.mk hs1
  replace hs2 := Hold.mk hs2
  replace hw1 := Hold.mk hw1
  replace hw2 := Hold.mk hw2
  repeat' (first | simp only [seval, evx, beq_self_eq_true, sb, ew, ec, evs_eq, encEv_def, List.map_nil, Nat.mul_one, *] | simp (disch := omega) only [if_pos, if_neg] | refine R.seq ?_ | refine LCB.text ?_ | refine LCB.quiet rfl ?_ | refine R.anyX ?_ | refine R.block ?_ | refine LCB.skip ?_ | refine LCB.exit ?_ | refine LCB.ret ?_ | ((first | refine RetOk.val hcl ?_ | refine Weak.at hcl ?_); simp only [seval, evw, List.forall_mem_cons, List.forall_mem_map, List.forall_mem_append, List.not_mem_nil, sb, ew, ec, evs_eq, encEv_def, List.map_nil, Nat.mul_one, *]) | ((first | refine LCB.cond (by simp only [seval, evx] <;> rfl) ?_ ?_ | refine wpG_split (by simp only [seval, evx] <;> rfl) ?_ ?_ | refine wxG_split (by simp only [seval, evx] <;> rfl) ?_ ?_) <;> (intro hc; try simp only [seval, nf] at hc)) | refine ACalls.inst ?_ | refine CallX.inst ?_ | (with_reducible refine And.intro ?_ ?_) | exact True.intro | refine ACalls.pure h1.of ?_ | refine CallX.pure h1.of ?_ | refine ACalls.pure h2.of ?_ | refine CallX.pure h2.of ?_ | refine ACalls.pure hdo.of ?_ | refine CallX.pure hdo.of ?_)
  refine R.loop (S := Nat × St × Tr) ⟨fun y => [(0, .list (f.map encIns)), (3, .list (ans.map encI)), (4, .int .i64 (y.1 : Int)), (6, .ptr H.length 1 0 0), (7, .ptr (H.length + 1) 1 0 0), (10, .ptr (H.length + 2) 1 0 0), (11, .ptr (H.length + 3) 1 0 0)],
    fun y => H ++ [.vec 4 [[.list (y.2.1.L.map encW), .list (y.2.1.heap.map encI), .int .i64 y.2.1.pc, .int .i64 y.2.1.asked]], .vec 6 [[.list (y.2.2.evs.map encEv), .int .i64 y.2.2.out.how, .int .i64 y.2.2.out.value, .list (y.2.2.out.heap.map encI), .int .i64 y.2.2.steps, .int .i64 y.2.2.work]], .vec 6 [[.imm (.slice none 0 0), .int .i64 0, .int .i64 0, .imm (.slice none 0 0), .int .i64 0, .int .i64 0]], .vec 4 [[.imm (.slice none 0 0), .imm (.slice none 0 0), .int .i64 0, .int .i64 0]]],
    fun y => (y.2.2.out.how = 0 → stRight f y.2.1 = true) ∧ onF f ans y.1 y.2.1 y.2.2 = RES ∧ y.2.2.evs.length + y.1 ≤ 100000 ∧ 0 ≤ y.2.2.steps ∧ y.2.2.steps + (y.1 : Int) ≤ 100000 ∧ 0 ≤ y.2.2.work ∧ y.2.2.work + (y.1 : Int) ≤ 100000 ∧ y.2.1.L.length = 24, fun y => y.1⟩ (F, s0, t0) ⟨hs0.of, hq.of, hev.of, hs1.of, hs2.of, hw1.of, hw2.of, hL.of⟩ (Weak.at hcl ?_) ?_
  · simp only [seval, evw, List.forall_mem_cons, List.forall_mem_map, List.forall_mem_append, List.not_mem_nil, sb, ew, ec, evs_eq, encEv_def, List.map_nil, Nat.mul_one, *]
  rintro ⟨m, s, t⟩ ⟨hs, hq, hev, hs1, hs2, hw1, hw2, hl⟩
  simp only at hs hq hev hs1 hs2 hw1 hw2 hl ⊢
  cases m with
  | zero =>
    have hqq : (t, s) = RES := hq
    subst hqq
    simp only [trA_eq, rsA_eq]
    have e0 : ((0 : Nat) : Int) = 0 := rfl
    replace hs := Hold.mk hs
    replace hq := Hold.mk hq
    replace hev := Hold.mk hev
    replace hs1 := Hold.mk hs1
    replace hs2 := Hold.mk hs2
    replace hw1 := Hold.mk hw1
    replace hw2 := Hold.mk hw2
    replace hl := Hold.mk hl
    repeat' (first | simp only [seval, evx, beq_self_eq_true, sb, ew, ec, evs_eq, encEv_def, List.map_nil, Nat.mul_one, *] | simp (disch := omega) only [if_pos, if_neg] | refine R.seq ?_ | refine LCB.text ?_ | refine LCB.quiet rfl ?_ | refine R.anyX ?_ | refine R.block ?_ | refine LCB.skip ?_ | refine LCB.exit ?_ | refine LCB.ret ?_ | ((first | refine RetOk.val hcl ?_ | refine Weak.at hcl ?_); simp only [seval, evw, List.forall_mem_cons, List.forall_mem_map, List.forall_mem_append, List.not_mem_nil, sb, ew, ec, evs_eq, encEv_def, List.map_nil, Nat.mul_one, *]) | ((first | refine LCB.cond (by simp only [seval, evx] <;> rfl) ?_ ?_ | refine wpG_split (by simp only [seval, evx] <;> rfl) ?_ ?_ | refine wxG_split (by simp only [seval, evx] <;> rfl) ?_ ?_) <;> (intro hc; try simp only [seval, nf] at hc)) | refine ACalls.inst ?_ | refine CallX.inst ?_ | (with_reducible refine And.intro ?_ ?_) | exact True.intro | refine ACalls.pure h1.of ?_ | refine CallX.pure h1.of ?_ | refine ACalls.pure h2.of ?_ | refine CallX.pure h2.of ?_ | refine ACalls.pure hdo.of ?_ | refine CallX.pure hdo.of ?_)
  | succ m =>
    have e1 : (0 : Int) < ((m + 1 : Nat) : Int) := by omega
    have e1' : ((m + 1 : Nat) : Int) > 0 := by omega
    have e2 : IntKind.i64.wrap (((m + 1 : Nat) : Int) - 1) = (m : Int) := by rw [IntKind.wrap_i64]; omega
    have e3 : IntKind.i64.wrap (t.steps + 1) = t.steps + 1 := by rw [IntKind.wrap_i64]; omega
    have e4 : IntKind.i64.wrap (t.work + 1) = t.work + 1 := by rw [IntKind.wrap_i64]; omega
    by_cases ht0 : t.out.how = 0
    case neg =>
      rw [onF, if_neg ht0] at hq
      subst hq
      simp only [trA_eq, rsA_eq]
      replace hs := Hold.mk hs
      replace hev := Hold.mk hev
      replace hs1 := Hold.mk hs1
      replace hs2 := Hold.mk hs2
      replace hw1 := Hold.mk hw1
      replace hw2 := Hold.mk hw2
      replace hl := Hold.mk hl
      generalize ((m + 1 : Nat) : Int) = M at *
      repeat' (first | simp only [seval, evx, beq_self_eq_true, sb, ew, ec, evs_eq, encEv_def, List.map_nil, Nat.mul_one, *] | simp (disch := omega) only [if_pos, if_neg] | refine R.seq ?_ | refine LCB.text ?_ | refine LCB.quiet rfl ?_ | refine R.anyX ?_ | refine R.block ?_ | refine LCB.skip ?_ | refine LCB.exit ?_ | refine LCB.ret ?_ | ((first | refine RetOk.val hcl ?_ | refine Weak.at hcl ?_); simp only [seval, evw, List.forall_mem_cons, List.forall_mem_map, List.forall_mem_append, List.not_mem_nil, sb, ew, ec, evs_eq, encEv_def, List.map_nil, Nat.mul_one, *]) | ((first | refine LCB.cond (by simp only [seval, evx] <;> rfl) ?_ ?_ | refine wpG_split (by simp only [seval, evx] <;> rfl) ?_ ?_ | refine wxG_split (by simp only [seval, evx] <;> rfl) ?_ ?_) <;> (intro hc; try simp only [seval, nf] at hc)) | refine ACalls.inst ?_ | refine CallX.inst ?_ | (with_reducible refine And.intro ?_ ?_) | exact True.intro | refine ACalls.pure h1.of ?_ | refine CallX.pure h1.of ?_ | refine ACalls.pure h2.of ?_ | refine CallX.pure h2.of ?_ | refine ACalls.pure hdo.of ?_ | refine CallX.pure hdo.of ?_)
    rw [onF, if_pos ht0] at hq
    have hs := hs ht0
    have hdo := ref07_Do_ok f s ans hl (by omega) hs
    have hsr := fun h => stepF_right (f := f) (s := s) (ask := ans) hs h
    have hl1 := stepF_len f s ans
    have hl2 := stepF_evs f s ans
    obtain ⟨r1, r2, r3, r4, r5, r6⟩ := stRight_iff.1 hs
    have hmv : (movesB (f.getD s.pc.toNat noIns).op = true ∧ nextT f ans s t = ⟨t.evs ++ (stepF f s ans).2.1, (stepF f s ans).2.2, t.steps + 1, t.work⟩) ∨ (movesB (f.getD s.pc.toNat noIns).op = false ∧ nextT f ans s t = ⟨t.evs ++ (stepF f s ans).2.1, (stepF f s ans).2.2, t.steps + 1, t.work + 1⟩) := by
      unfold nextT
      cases movesB (f.getD s.pc.toNat noIns).op
      · exact .inr ⟨rfl, rfl⟩
      · exact .inl ⟨rfl, rfl⟩
    generalize hT : nextT f ans s t = t' at *
    clear hT
    generalize stepF f s ans = r at *
    obtain ⟨s', ev, o⟩ := r
    simp only at hdo hsr hl1 hl2 hmv hq
    obtain ⟨L, heap, pc, asked⟩ := s
    simp only at r2 r3 hl hmv hl1
    obtain ⟨n, rfl⟩ := Int.eq_ofNat_of_zero_le r2
    have hn : n < f.length := by omega
    have hg := getD_encIns hn
    have e5 : (n : Int) < (f.length : Int) := by omega
    simp only [Int.toNat_natCast] at hmv
    generalize f.getD n noIns = x at *
    obtain ⟨op, xd, xa, xb, xn, xto⟩ := x
    simp only at hmv
    have he : encIns ⟨op, xd, xa, xb, xn, xto⟩ = [.int .i64 op, .int .i64 xd, .int .i64 xa, .int .i64 xb, .int .i64 xn, .int .i64 xto] := rfl
    rw [he] at hg
    replace he := Hold.mk he
    have rk : rowsOk 3 (ev.map encEv) = true := rk_map fun x _ => ⟨rfl, rfl⟩
    have rk2 : rowsOk 3 (t.evs.map encEv) = true := rk_map fun x _ => ⟨rfl, rfl⟩
    have hel : (t.evs ++ ev).length = t.evs.length + ev.length := List.length_append
    obtain ⟨tev, ⟨th, tv, thp⟩, tst, twk⟩ := t
    simp only at ht0 hev hs1 hs2 hw1 hw2 e3 e4 hel hmv rk2
    have tk : List.take (tev.length + ev.length) (tev.map encEv ++ ev.map encEv) = tev.map encEv ++ ev.map encEv := List.take_of_length_le (by simp)
    have b0 : tev.length * 24 ≤ 140737488355328 := by omega
    have b0' : tev.length ≤ 9223372036854775806 := by omega
    have b0'' : (0 + tev.length) * 24 ≤ 140737488355328 := by omega
    have b1 : (tev.length + ev.length) * 24 ≤ 140737488355328 := by omega
    have b2 : tev.length + ev.length ≤ 9223372036854775806 := by omega
    have b3 : tev.length + ev.length + m ≤ 100000 := by omega
    have hs2' : tst + 1 + (m : Int) ≤ 100000 := by omega
    have hw2' : twk + 1 + (m : Int) ≤ 100000 := by omega
    have hw2'' : twk + (m : Int) ≤ 100000 := by omega
    have hs1' : 0 ≤ tst + 1 := by omega
    have hw1' : 0 ≤ twk + 1 := by omega
    clear r1 r2 r3 r4 r5 r6 hs hn hev hs2 hw2
    subst ht0
    have hl3 : s'.L.length = 24 := by rw [hl1, hl]
    obtain ⟨oh, ov, ohp⟩ := o
    simp only at hsr hmv
    simp only [rsA_eq, outA_eq, evs_eq] at hdo
    unfold encFn ints at hdo
    replace hdo := Hold.mk hdo
    replace hl := Hold.mk hl
    replace hl1 := Hold.mk hl1
    replace hl2 := Hold.mk hl2
    replace hl3 := Hold.mk hl3
    replace hq := Hold.mk hq
    replace hsr := Hold.mk hsr
    replace hel := Hold.mk hel
    replace b3 := Hold.mk b3
    replace hs2' := Hold.mk hs2'
    replace hw2' := Hold.mk hw2'
    replace hw2'' := Hold.mk hw2''
    replace hs1 := Hold.mk hs1
    replace hw1 := Hold.mk hw1
    replace hs1' := Hold.mk hs1'
    replace hw1' := Hold.mk hw1'
    rcases hmv with ⟨hm, hT⟩ | ⟨hm, hT⟩
    · subst hT
      repeat' (first | simp only [seval, evx, beq_self_eq_true, sb, ew, ec, evs_eq, encEv_def, List.map_nil, Nat.mul_one, *] | simp (disch := omega) only [if_pos, if_neg] | refine R.seq ?_ | refine LCB.text ?_ | refine LCB.quiet rfl ?_ | refine R.anyX ?_ | refine R.block ?_ | refine LCB.skip ?_ | refine LCB.exit ?_ | refine LCB.ret ?_ | ((first | refine RetOk.val hcl ?_ | refine Weak.at hcl ?_); simp only [seval, evw, List.forall_mem_cons, List.forall_mem_map, List.forall_mem_append, List.not_mem_nil, sb, ew, ec, evs_eq, encEv_def, List.map_nil, Nat.mul_one, *]) | ((first | refine LCB.cond (by simp only [seval, evx] <;> rfl) ?_ ?_ | refine wpG_split (by simp only [seval, evx] <;> rfl) ?_ ?_ | refine wxG_split (by simp only [seval, evx] <;> rfl) ?_ ?_) <;> (intro hc; try simp only [seval, nf] at hc)) | refine ACalls.inst ?_ | refine CallX.inst ?_ | (with_reducible refine And.intro ?_ ?_) | exact True.intro | refine ACalls.pure h1.of ?_ | refine CallX.pure h1.of ?_ | refine ACalls.pure h2.of ?_ | refine CallX.pure h2.of ?_ | refine ACalls.pure hdo.of ?_ | refine CallX.pure hdo.of ?_)
      refine ⟨(m, s', _), ⟨hsr.of, hq.of, by simp only [hel.of]; exact b3.of, hs1'.of, hs2'.of, hw1.of, hw2''.of, hl3.of⟩, by simp only; omega, ?_⟩
      refine Weak.viewH hcl (by simp) (by simp) ?_ ?_
      · intro i o q g1 g2
        match i with
        | 0 => simp at g1 g2; subst g1; subst g2; exact .row rfl (by simp only [seval, evw, List.forall_mem_cons, List.forall_mem_map, List.forall_mem_append, List.not_mem_nil, sb, ew, ec, evs_eq, encEv_def, List.map_nil, Nat.mul_one, *])
        | 1 => simp at g1 g2; subst g1; subst g2; exact .row rfl (by simp only [seval, evw, List.forall_mem_cons, List.forall_mem_map, List.forall_mem_append, List.not_mem_nil, sb, ew, ec, evs_eq, encEv_def, List.map_nil, Nat.mul_one, *])
        | 2 => simp at g1 g2; subst g1; subst g2; exact .row rfl (by simp only [seval, evw, List.forall_mem_cons, List.forall_mem_map, List.forall_mem_append, List.not_mem_nil, sb, ew, ec, evs_eq, encEv_def, List.map_nil, Nat.mul_one, *])
        | 3 => simp at g1 g2; subst g1; subst g2; exact .row rfl (by simp only [seval, evw, List.forall_mem_cons, List.forall_mem_map, List.forall_mem_append, List.not_mem_nil, sb, ew, ec, evs_eq, encEv_def, List.map_nil, Nat.mul_one, *])
        | n + 4 => simp at g2
      · simp only [seval, evw, List.forall_mem_cons, List.forall_mem_map, List.forall_mem_append, List.not_mem_nil, sb, ew, ec, evs_eq, encEv_def, List.map_nil, Nat.mul_one, *]
    · subst hT
      repeat' (first | simp only [seval, evx, beq_self_eq_true, sb, ew, ec, evs_eq, encEv_def, List.map_nil, Nat.mul_one, *] | simp (disch := omega) only [if_pos, if_neg] | refine R.seq ?_ | refine LCB.text ?_ | refine LCB.quiet rfl ?_ | refine R.anyX ?_ | refine R.block ?_ | refine LCB.skip ?_ | refine LCB.exit ?_ | refine LCB.ret ?_ | ((first | refine RetOk.val hcl ?_ | refine Weak.at hcl ?_); simp only [seval, evw, List.forall_mem_cons, List.forall_mem_map, List.forall_mem_append, List.not_mem_nil, sb, ew, ec, evs_eq, encEv_def, List.map_nil, Nat.mul_one, *]) | ((first | refine LCB.cond (by simp only [seval, evx] <;> rfl) ?_ ?_ | refine wpG_split (by simp only [seval, evx] <;> rfl) ?_ ?_ | refine wxG_split (by simp only [seval, evx] <;> rfl) ?_ ?_) <;> (intro hc; try simp only [seval, nf] at hc)) | refine ACalls.inst ?_ | refine CallX.inst ?_ | (with_reducible refine And.intro ?_ ?_) | exact True.intro | refine ACalls.pure h1.of ?_ | refine CallX.pure h1.of ?_ | refine ACalls.pure h2.of ?_ | refine CallX.pure h2.of ?_ | refine ACalls.pure hdo.of ?_ | refine CallX.pure hdo.of ?_)
      refine ⟨(m, s', _), ⟨hsr.of, hq.of, by simp only [hel.of]; exact b3.of, hs1'.of, hs2'.of, hw1'.of, hw2'.of, hl3.of⟩, by simp only; omega, ?_⟩
      refine Weak.viewH hcl (by simp) (by simp) ?_ ?_
      · intro i o q g1 g2
        match i with
        | 0 => simp at g1 g2; subst g1; subst g2; exact .row rfl (by simp only [seval, evw, List.forall_mem_cons, List.forall_mem_map, List.forall_mem_append, List.not_mem_nil, sb, ew, ec, evs_eq, encEv_def, List.map_nil, Nat.mul_one, *])
        | 1 => simp at g1 g2; subst g1; subst g2; exact .row rfl (by simp only [seval, evw, List.forall_mem_cons, List.forall_mem_map, List.forall_mem_append, List.not_mem_nil, sb, ew, ec, evs_eq, encEv_def, List.map_nil, Nat.mul_one, *])
        | 2 => simp at g1 g2; subst g1; subst g2; exact .row rfl (by simp only [seval, evw, List.forall_mem_cons, List.forall_mem_map, List.forall_mem_append, List.not_mem_nil, sb, ew, ec, evs_eq, encEv_def, List.map_nil, Nat.mul_one, *])
        | 3 => simp at g1 g2; subst g1; subst g2; exact .row rfl (by simp only [seval, evw, List.forall_mem_cons, List.forall_mem_map, List.forall_mem_append, List.not_mem_nil, sb, ew, ec, evs_eq, encEv_def, List.map_nil, Nat.mul_one, *])
        | n + 4 => simp at g2
      · simp only [seval, evw, List.forall_mem_cons, List.forall_mem_map, List.forall_mem_append, List.not_mem_nil, sb, ew, ec, evs_eq, encEv_def, List.map_nil, Nat.mul_one, *]
theorem Pure.views {P : Program} {g : FuncId} {args args' : List AV} {r : AV} (h : ∀ H : List AObj, Loses H H args args') (hp : Pure P g args' r) : Pure P g args r := fun H => ACalls.views args' (h H) (hp H)
theorem ref08_Run_ok (f : List Ins) (c : Cs) (hR : c.R.length = 8) (hf : f.length ≤ 9223372036854775807) (hf0 : fnOk f = true) (hc0 : csRight c = true) : Pure Tryd.prog 36 [encFn f, csA c] (.tup [trA (runF f c).1, rsA (runF f c).2]) := by
  intro H
  refine ACalls.go joineryref08_Run.low (by simp) fun hcl => ?_
  have hil : (ic c.R).length = 8 := by rw [ic_len, hR]
  have h1 := ref08_Begin_ok c hR
  have k3 := hc0
  unfold csRight at k3
  simp only [Bool.and_eq_true, decide_eq_true_eq] at k3
  obtain ⟨q1, q2, q3, q4⟩ := k3
  have hfl : 0 < f.length := by
    cases f
    · exact absurd hf0 (by decide)
    · exact Nat.succ_pos _
  have hbr := beginS_right hf0 hc0 hfl
  have hlen := beginS_len hR
  obtain ⟨F, hF⟩ := Int.eq_ofNat_of_zero_le q3
  have hq : onF f c.ans F (beginS c) tr0 = runF f c := by unfold runF; rw [hF]; rfl
  have h2 := ref08_On_ok f (beginS c) tr0 c.ans F hlen (by omega) hf (fun _ => hbr) (by show 0 + F ≤ _; omega) (Int.le_refl 0) (by show (0 : Int) + _ ≤ _; omega) (Int.le_refl 0) (by show (0 : Int) + _ ≤ _; omega)
  rw [hq] at h2
  clear hq hbr hf0 hc0
  generalize beginS c = s0 at *
  generalize runF f c = RES at *
  rw [← hF] at h2
  rw [csA_eq] at *
  rw [rsA_eq s0] at *
  rw [trA_eq RES.1, rsA_eq RES.2] at *
  unfold encFn ints at *
  clear hF q1 q2 q3 q4 hlen
  replace h2 := Hold.mk (Pure.views (args := [.list (f.map encIns), .agg [.list (s0.L.map encW), .list (s0.heap.map encI), .int .i64 s0.pc, .int .i64 s0.asked], .agg [.imm (.slice none 0 0), .int .i64 0, .int .i64 0, .imm (.slice none 0 0), .int .i64 0, .int .i64 0], .list (c.ans.map encI), .int .i64 c.fuel]) (fun H => by rw [tr0_eq]; simp only [seval, evw, lk, List.forall_mem_cons, List.forall_mem_map, List.forall_mem_append, List.not_mem_nil, sb, ew, ec, evs_eq, encEv_def, List.map_nil, Nat.mul_one, *]) h2)
  replace h1 := Hold.mk h1
  replace hR := Hold.mk hR
  repeat' (first | simp only [seval, evx, beq_self_eq_true, sb, ew, ec, evs_eq, encEv_def, List.map_nil, Nat.mul_one, *] | simp (disch := omega) only [if_pos, if_neg] | refine R.seq ?_ | refine LCB.text ?_ | refine LCB.quiet rfl ?_ | refine R.anyX ?_ | refine R.block ?_ | refine LCB.skip ?_ | refine LCB.exit ?_ | refine LCB.ret ?_ | ((first | refine RetOk.val hcl ?_ | refine Weak.at hcl ?_); simp only [seval, evw, List.forall_mem_cons, List.forall_mem_map, List.forall_mem_append, List.not_mem_nil, sb, ew, ec, evs_eq, encEv_def, List.map_nil, Nat.mul_one, *]) | ((first | refine LCB.cond (by simp only [seval, evx] <;> rfl) ?_ ?_ | refine wpG_split (by simp only [seval, evx] <;> rfl) ?_ ?_ | refine wxG_split (by simp only [seval, evx] <;> rfl) ?_ ?_) <;> (intro hc; try simp only [seval, nf] at hc)) | refine ACalls.inst ?_ | refine CallX.inst ?_ | (with_reducible refine And.intro ?_ ?_) | exact True.intro | refine ACalls.pure h1.of ?_ | refine CallX.pure h1.of ?_ | refine ACalls.pure h2.of ?_ | refine CallX.pure h2.of ?_ | refine ACalls.pure hdo.of ?_ | refine CallX.pure hdo.of ?_)
end Go.Proofs.YtbkbehkjndmabaaDoor

/-
  run: the examples.
-/
namespace Go.Proofs.YtbkbehkjndmabaaDoor
open Go.RowKit
set_option linter.unusedVariables false
set_option linter.unusedSimpArgs false
def rx : List UInt8 := [109, 111, 118, 32, 114, 49, 32, 114, 48, 10, 114, 101, 116, 32, 114, 49, 10]
def rh : List UInt8 := [106, 117, 109, 112, 32, 48, 10]
def rf : List Ins := [⟨2, 1, 0, 0, 0, 0⟩, ⟨18, 0, 1, 0, 0, 0⟩]
def rg : List Ins := [⟨16, 0, 0, 0, 0, 0⟩]
def rc : Cs := ⟨[7, 0, 0, 0, 0, 0, 0, 0], [], [], 9⟩
def rL : List W := [⟨true, 7⟩, ⟨true, 7⟩, ⟨true, 0⟩, ⟨true, 0⟩, ⟨true, 0⟩, ⟨true, 0⟩, ⟨true, 0⟩, ⟨true, 0⟩] ++ List.replicate 16 noW
def rM : List W := [⟨true, 7⟩, ⟨true, 0⟩, ⟨true, 0⟩, ⟨true, 0⟩, ⟨true, 0⟩, ⟨true, 0⟩, ⟨true, 0⟩, ⟨true, 0⟩] ++ List.replicate 16 noW
theorem rx_ok : fnParse rx = (rf, 0, 0) := by decide +kernel
theorem rh_ok : fnParse rh = (rg, 0, 0) := by decide +kernel
theorem rf_ok : fnOk rf = true := by decide +kernel
theorem rg_ok : fnOk rg = true := by decide +kernel
theorem rc_ok : csRight rc = true := by decide +kernel
theorem rf_run : runF rf rc = (⟨[], ⟨1, 7, []⟩, 2, 1⟩, ⟨rL, [], 1, 0⟩) := by decide +kernel
theorem rg_run : runF rg rc = (⟨[], ⟨0, 0, []⟩, 9, 0⟩, ⟨rM, [], 0, 0⟩) := by decide +kernel
theorem rf_ans : runA rf rc = .tup [.agg [.list [], .int .i64 1, .int .i64 7, .list [], .int .i64 2, .int .i64 1], .agg (wc rL ++ [.list [], .int .i64 1, .int .i64 0]), .int .i64 0] := by
  unfold runA
  rw [rf_ok, rc_ok, Bool.and_true, if_pos rfl, rf_run]
  rfl
theorem rg_ans : runA rg rc = .tup [.agg [.list [], .int .i64 0, .int .i64 0, .list [], .int .i64 9, .int .i64 0], .agg (wc rM ++ [.list [], .int .i64 0, .int .i64 0]), .int .i64 0] := by
  unfold runA
  rw [rg_ok, rc_ok, Bool.and_true, if_pos rfl, rg_run]
  rfl
theorem rc_eq : csA rc = .agg [.int .i64 7, .int .i64 0, .int .i64 0, .int .i64 0, .int .i64 0, .int .i64 0, .int .i64 0, .int .i64 0, .list [], .list [], .int .i64 9] := rfl
set_option maxHeartbeats 4000000 in
theorem law08_knows_ok : Pure Tryd.prog 28 [] (.bool true) := by
  intro H
  refine ACalls.go joinerylaw08_knows.low (by simp) fun hcl => ?_
  have h1 := asm_Parse_ok rx (by decide)
  rw [rx_ok] at h1
  have h2 := run_Run_ok rf rc rfl (by decide)
  have h3 := asm_Parse_ok rh (by decide)
  rw [rh_ok] at h3
  have h4 := run_Run_ok rg rc rfl (by decide)
  have h5 := run_Right_ok rc rfl
  rw [rf_ans] at h2
  rw [rg_ans] at h4
  rw [rc_ok] at h5
  rw [rc_eq] at *
  have hl1 : (wc rL).length = 48 := rfl
  have hl2 : (wc rM).length = 48 := rfl
  unfold fnR encFn at *
  simp only at h1 h3
  generalize rL = A at *
  generalize rM = B at *
  generalize List.map encIns rf = F at *
  generalize List.map encIns rg = G at *
  unfold rx rh at *
  replace h1 := Hold.mk h1
  replace h3 := Hold.mk h3
  replace h2 := Hold.mk (Pure.views (args := [.list F, .agg [.int .i64 7, .int .i64 0, .int .i64 0, .int .i64 0, .int .i64 0, .int .i64 0, .int .i64 0, .int .i64 0, .imm (.slice none 0 0), .imm (.slice none 0 0), .int .i64 9]]) (fun H => by simp only [seval, evw, lk, List.forall_mem_cons, List.forall_mem_map, List.forall_mem_append, List.not_mem_nil, sb, ew, evs_eq, encEv_def, List.map_nil, List.length_nil, *]) h2)
  replace h4 := Hold.mk (Pure.views (args := [.list G, .agg [.int .i64 7, .int .i64 0, .int .i64 0, .int .i64 0, .int .i64 0, .int .i64 0, .int .i64 0, .int .i64 0, .imm (.slice none 0 0), .imm (.slice none 0 0), .int .i64 9]]) (fun H => by simp only [seval, evw, lk, List.forall_mem_cons, List.forall_mem_map, List.forall_mem_append, List.not_mem_nil, sb, ew, evs_eq, encEv_def, List.map_nil, List.length_nil, *]) h4)
  replace h5 := Hold.mk (Pure.views (args := [.agg [.int .i64 7, .int .i64 0, .int .i64 0, .int .i64 0, .int .i64 0, .int .i64 0, .int .i64 0, .int .i64 0, .imm (.slice none 0 0), .imm (.slice none 0 0), .int .i64 9]]) (fun H => by simp only [seval, evw, lk, List.forall_mem_cons, List.forall_mem_map, List.forall_mem_append, List.not_mem_nil, sb, ew, evs_eq, encEv_def, List.map_nil, List.length_nil, *]) h5)
  repeat' (first | simp only [seval, evx, beq_self_eq_true, sb, ew, evs_eq, encEv_def, List.map_nil, List.length_nil, *] | simp (disch := omega) only [if_pos, if_neg] | refine R.seq ?_ | refine LCB.text ?_ | refine LCB.quiet rfl ?_ | refine R.anyX ?_ | refine R.block ?_ | refine LCB.skip ?_ | refine LCB.exit ?_ | refine LCB.ret ?_ | ((first | refine RetOk.val hcl ?_ | refine Weak.at hcl ?_); simp only [seval, evw, List.forall_mem_cons, List.forall_mem_map, List.forall_mem_append, List.not_mem_nil, sb, ew, evs_eq, encEv_def, List.map_nil, List.length_nil, *]) | ((first | refine LCB.cond (by simp only [seval, evx] <;> rfl) ?_ ?_ | refine wpG_split (by simp only [seval, evx] <;> rfl) ?_ ?_ | refine wxG_split (by simp only [seval, evx] <;> rfl) ?_ ?_) <;> (intro hc; try simp only [seval, nf] at hc)) | refine ACalls.inst ?_ | refine CallX.inst ?_ | (with_reducible refine And.intro ?_ ?_) | exact True.intro | refine ACalls.pure h1.of ?_ | refine CallX.pure h1.of ?_ | refine ACalls.pure h2.of ?_ | refine CallX.pure h2.of ?_ | refine ACalls.pure h3.of ?_ | refine CallX.pure h3.of ?_ | refine ACalls.pure h4.of ?_ | refine CallX.pure h4.of ?_ | refine ACalls.pure h5.of ?_ | refine CallX.pure h5.of ?_)
instance pc_law08_knows : PureC Tryd.prog 28 [] (.bool true) := ⟨law08_knows_ok⟩
end Go.Proofs.YtbkbehkjndmabaaDoor

