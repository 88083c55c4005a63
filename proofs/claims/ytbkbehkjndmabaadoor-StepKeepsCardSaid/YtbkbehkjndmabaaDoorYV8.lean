/-
  StepKeeps, of every function, state, answers, place and word: words that an instruction neither moves nor sets stay as they are; and what it does not need makes no difference to what it does.
-/
import Derived.Test.YtbkbehkjndmabaaDoorZ10
namespace Go.Proofs.YtbkbehkjndmabaaDoor
open Go.ChangeShapes Go.WideShapes Go.ChangeAt Go.RowKit
set_option linter.unusedVariables false
set_option linter.unusedSimpArgs false
theorem getD_set_other {L : List W} {l k : Nat} {w : W} (h : k ≠ l) : (L.set l w).getD k noW = L.getD k noW := by
  rw [List.getD_eq_getElem?_getD, List.getElem?_set_ne (Ne.symm h), List.getD_eq_getElem?_getD]
theorem stepW_at {s : St} {x : Ins} {ask : List Int} {l : Nat} (hd : l ≠ x.d.toNat) (ha : l ≠ x.a.toNat) : (stepW s x ask).1.L.getD l noW = s.L.getD l noW := by
  unfold stepW
  simp only [setS, callS, moveS, if_true]
  (repeat' split) <;> first | rfl | (simp only; rw [getD_set_other ha, getD_set_other hd]) | (simp only; rw [getD_set_other hd]) | (simp only)
theorem stepW_set {s : St} {x : Ins} {ask : List Int} {l : Nat} {w : W} (hd : l ≠ x.d.toNat) (ha : l ≠ x.a.toNat) (hb : l ≠ x.b.toNat) : stepW { s with L := s.L.set l w } x ask = ({ (stepW s x ask).1 with L := (stepW s x ask).1.L.set l w }, (stepW s x ask).2) := by
  have e1 : (s.L.set l w).getD x.a.toNat noW = s.L.getD x.a.toNat noW := getD_set_other (Ne.symm ha)
  have e2 : (s.L.set l w).getD x.b.toNat noW = s.L.getD x.b.toNat noW := getD_set_other (Ne.symm hb)
  have e3 : (s.L.set l w).getD x.d.toNat noW = s.L.getD x.d.toNat noW := getD_set_other (Ne.symm hd)
  have c1 : ∀ v : W, (s.L.set l w).set x.d.toNat v = (s.L.set x.d.toNat v).set l w := fun v => List.set_comm _ _ hd
  have c2 : ∀ (L : List W) (v : W), (L.set l w).set x.a.toNat v = (L.set x.a.toNat v).set l w := fun L v => List.set_comm _ _ ha
  unfold stepW
  simp only [setS, callS, moveS, if_true, e1, e2, e3, c1, c2]
  by_cases o13 : x.op = 13
  · simp only [if_pos o13]
    split <;> rfl
  simp only [if_neg o13]
  by_cases o14 : x.op = 14
  · simp only [if_pos o14]
    split <;> rfl
  simp only [if_neg o14]
  by_cases o15 : x.op = 15
  · simp only [if_pos o15]
    split <;> rfl
  simp only [if_neg o15]
  by_cases o18 : x.op = 18
  · simp only [if_pos o18]
  simp only [if_neg o18]
  by_cases o17 : x.op = 17
  · simp only [if_pos o17]
  simp only [if_neg o17]
  by_cases o16 : x.op = 16
  · simp only [if_pos o16]
  simp only [if_neg o16]
  by_cases om : x.op = 1 ∨ x.op = 2 ∨ x.op = 3
  · simp only [if_pos om]
    by_cases o1 : x.op = 1
    · simp only [if_pos o1]
    simp only [if_neg o1]
    by_cases o2 : x.op = 2
    · simp only [if_pos o2]
    simp only [if_neg o2]
    have o3 : x.op = 3 := by omega
    simp only [if_pos o3]
  simp only [if_neg om]
  split <;> rfl
theorem stepF_set {f : List Ins} {s : St} {ask : List Int} {l : Nat} {w : W} (hpos : 0 ≤ (f.getD s.pc.toNat noIns).a ∧ 0 ≤ (f.getD s.pc.toNat noIns).b) (hd : l ≠ (f.getD s.pc.toNat noIns).d.toNat) (ha : l ≠ (f.getD s.pc.toNat noIns).a.toNat) (hb : l ≠ (f.getD s.pc.toNat noIns).b.toNat) :
    stepF f { s with L := s.L.set l w } ask = ({ (stepF f s ask).1 with L := (stepF f s ask).1.L.set l w }, (stepF f s ask).2) ∧ (stepF f s ask).1.L.getD l noW = s.L.getD l noW := by
  have hu : (usesR (f.getD s.pc.toNat noIns)).all (fun k => (wAt (s.L.set l w) k).is) = (usesR (f.getD s.pc.toNat noIns)).all (fun k => (wAt s.L k).is) := by
    rw [Bool.eq_iff_iff, List.all_eq_true, List.all_eq_true]
    have : ∀ k ∈ usesR (f.getD s.pc.toNat noIns), wAt (s.L.set l w) k = wAt s.L k := fun k hk => by
      unfold wAt
      refine getD_set_other ?_
      rcases usesR_mem hk with h | h <;> rw [h]
      · exact Ne.symm ha
      · exact Ne.symm hb
    constructor
    · intro h k hk; rw [← this k hk]; exact h k hk
    · intro h k hk; rw [this k hk]; exact h k hk
  unfold stepF
  simp only [hu]
  generalize f.getD s.pc.toNat noIns = x at *
  rw [stepW_set hd ha hb]
  split
  · exact ⟨rfl, stepW_at hd ha⟩
  · exact ⟨rfl, rfl⟩
set_option maxHeartbeats 8000000 in
theorem StepKeeps_ok (f : List Ins) (s : St) (ask : List Int) (l : Int) (w : W) (hL : s.L.length = 24) (hask : ask.length ≤ maxLen) : Pure Tryd.prog 6 [encFn f, stA s, ints ask, .int .i64 l, .agg [.bool w.is, .int .i64 w.v]] (.bool true) := by
  intro H
  refine ACalls.go joinerylaw07_StepKeeps.low (by simp) fun hcl => ?_
  have hwl : (wc s.L).length = 48 := by rw [wc_len, hL]
  have hgr := law07_great_ok f s ask hL
  have hAs := law07_As_ok s hL
  have hRR := ref07_Right_ok f s hL
  have hdo := step_Do_ok f s ask hL (by rw [maxLen_def] at hask; omega)
  unfold stepA at hdo
  by_cases hg : greatB f s ask = true
  · rw [hg] at hgr
    rw [stA_eq] at *
    unfold encFn ints at *
    replace hgr := Hold.mk hgr
    clear hAs hdo hRR
    repeat' (first | simp only [seval, evx, beq_self_eq_true, sb, ew, insA, ins_dec, ins_eta, evs_eq, encEv_def, List.map_nil, List.length_nil, beq_self_eq_true, *] | simp (disch := omega) only [if_pos, if_neg] | refine R.seq ?_ | refine LCB.text ?_ | refine LCB.quiet rfl ?_ | refine R.anyX ?_ | refine R.block ?_ | refine LCB.skip ?_ | refine LCB.exit ?_ | refine LCB.ret ?_ | ((first | refine RetOk.val hcl ?_ | refine Weak.at hcl ?_); simp only [seval, evw, List.forall_mem_cons, List.forall_mem_map, List.forall_mem_append, List.not_mem_nil, sb, ew, insA, ins_dec, ins_eta, evs_eq, encEv_def, List.map_nil, List.length_nil, beq_self_eq_true, *]) | ((first | refine LCB.cond (by simp only [seval, evx] <;> rfl) ?_ ?_ | refine wpG_split (by simp only [seval, evx] <;> rfl) ?_ ?_ | refine wxG_split (by simp only [seval, evx] <;> rfl) ?_ ?_) <;> (intro hc; try simp only [seval, nf] at hc)) | refine ACalls.inst ?_ | refine CallX.inst ?_ | (with_reducible refine And.intro ?_ ?_) | exact True.intro)
    first | refine ACalls.pure (hgr.of) ?_ | refine CallP.pure (hgr.of) rfl ?_ | refine CallX.pure (hgr.of) ?_
    repeat' (first | simp only [seval, evx, beq_self_eq_true, sb, ew, insA, ins_dec, ins_eta, evs_eq, encEv_def, List.map_nil, List.length_nil, beq_self_eq_true, *] | simp (disch := omega) only [if_pos, if_neg] | refine R.seq ?_ | refine LCB.text ?_ | refine LCB.quiet rfl ?_ | refine R.anyX ?_ | refine R.block ?_ | refine LCB.skip ?_ | refine LCB.exit ?_ | refine LCB.ret ?_ | ((first | refine RetOk.val hcl ?_ | refine Weak.at hcl ?_); simp only [seval, evw, List.forall_mem_cons, List.forall_mem_map, List.forall_mem_append, List.not_mem_nil, sb, ew, insA, ins_dec, ins_eta, evs_eq, encEv_def, List.map_nil, List.length_nil, beq_self_eq_true, *]) | ((first | refine LCB.cond (by simp only [seval, evx] <;> rfl) ?_ ?_ | refine wpG_split (by simp only [seval, evx] <;> rfl) ?_ ?_ | refine wxG_split (by simp only [seval, evx] <;> rfl) ?_ ?_) <;> (intro hc; try simp only [seval, nf] at hc)) | refine ACalls.inst ?_ | refine CallX.inst ?_ | (with_reducible refine And.intro ?_ ?_) | exact True.intro)
  obtain ⟨q1, q2, q3⟩ := great_not hg
  have hg2 : greatB f s ask = false := by simpa using hg
  rw [hg2] at hgr
  clear hg hg2
  by_cases hr : stRight f s = true
  case neg =>
    have hr2 : stRight f s = false := by simpa using hr
    rw [hr2] at hRR
    simp only [stA_eq, rsA_eq] at *
    unfold encFn ints at *
    replace hgr := Hold.mk hgr
    replace hRR := Hold.mk hRR
    replace hAs := Hold.mk hAs
    replace hdo := Hold.mk hdo
    clear hr hr2 q1 q2 q3 hL hask
    repeat' (first | simp only [seval, evx, beq_self_eq_true, sb, ew, insA, ins_dec, ins_eta, evs_eq, encEv_def, List.map_nil, List.length_nil, beq_self_eq_true, *] | simp (disch := omega) only [if_pos, if_neg] | refine R.seq ?_ | refine LCB.text ?_ | refine LCB.quiet rfl ?_ | refine R.anyX ?_ | refine R.block ?_ | refine LCB.skip ?_ | refine LCB.exit ?_ | refine LCB.ret ?_ | ((first | refine RetOk.val hcl ?_ | refine Weak.at hcl ?_); simp only [seval, evw, List.forall_mem_cons, List.forall_mem_map, List.forall_mem_append, List.not_mem_nil, sb, ew, insA, ins_dec, ins_eta, evs_eq, encEv_def, List.map_nil, List.length_nil, beq_self_eq_true, *]) | ((first | refine LCB.cond (by simp only [seval, evx] <;> rfl) ?_ ?_ | refine wpG_split (by simp only [seval, evx] <;> rfl) ?_ ?_ | refine wxG_split (by simp only [seval, evx] <;> rfl) ?_ ?_) <;> (intro hc; try simp only [seval, nf] at hc)) | refine ACalls.inst ?_ | refine CallX.inst ?_ | (with_reducible refine And.intro ?_ ?_) | exact True.intro | refine ACalls.pure hgr.of ?_ | refine CallX.pure hgr.of ?_ | refine ACalls.pure hdo.of ?_ | refine CallX.pure hdo.of ?_ | refine ACalls.pure hAs.of ?_ | refine CallX.pure hAs.of ?_ | refine ACalls.pure hRR.of ?_ | refine CallX.pure hRR.of ?_ | refine ACalls.pure hdo2.of ?_ | refine CallX.pure hdo2.of ?_ | refine ACalls.pure hAsx.of ?_ | refine CallX.pure hAsx.of ?_ | refine ACalls.pure hS.of ?_ | refine CallX.pure hS.of ?_)
  rw [hr] at hRR
  by_cases hgd : l < 0 ∨ 23 < l ∨ (w.is = false ∧ ¬ w.v = 0)
  · clear hdo
    simp only [stA_eq, rsA_eq] at *
    unfold encFn ints at *
    replace hgr := Hold.mk hgr
    replace hRR := Hold.mk hRR
    replace hAs := Hold.mk hAs
    clear hr q1 q2 q3 hL hask
    by_cases c1 : l < 0
    · clear hgd
      repeat' (first | simp only [seval, evx, beq_self_eq_true, sb, ew, insA, ins_dec, ins_eta, evs_eq, encEv_def, List.map_nil, List.length_nil, beq_self_eq_true, *] | simp (disch := omega) only [if_pos, if_neg] | refine R.seq ?_ | refine LCB.text ?_ | refine LCB.quiet rfl ?_ | refine R.anyX ?_ | refine R.block ?_ | refine LCB.skip ?_ | refine LCB.exit ?_ | refine LCB.ret ?_ | ((first | refine RetOk.val hcl ?_ | refine Weak.at hcl ?_); simp only [seval, evw, List.forall_mem_cons, List.forall_mem_map, List.forall_mem_append, List.not_mem_nil, sb, ew, insA, ins_dec, ins_eta, evs_eq, encEv_def, List.map_nil, List.length_nil, beq_self_eq_true, *]) | ((first | refine LCB.cond (by simp only [seval, evx] <;> rfl) ?_ ?_ | refine wpG_split (by simp only [seval, evx] <;> rfl) ?_ ?_ | refine wxG_split (by simp only [seval, evx] <;> rfl) ?_ ?_) <;> (intro hc; try simp only [seval, nf] at hc)) | refine ACalls.inst ?_ | refine CallX.inst ?_ | (with_reducible refine And.intro ?_ ?_) | exact True.intro | refine ACalls.pure hgr.of ?_ | refine CallX.pure hgr.of ?_ | refine ACalls.pure hdo.of ?_ | refine CallX.pure hdo.of ?_ | refine ACalls.pure hAs.of ?_ | refine CallX.pure hAs.of ?_ | refine ACalls.pure hRR.of ?_ | refine CallX.pure hRR.of ?_ | refine ACalls.pure hdo2.of ?_ | refine CallX.pure hdo2.of ?_ | refine ACalls.pure hAsx.of ?_ | refine CallX.pure hAsx.of ?_ | refine ACalls.pure hS.of ?_ | refine CallX.pure hS.of ?_)
    by_cases c2 : 23 < l
    · clear hgd
      repeat' (first | simp only [seval, evx, beq_self_eq_true, sb, ew, insA, ins_dec, ins_eta, evs_eq, encEv_def, List.map_nil, List.length_nil, beq_self_eq_true, *] | simp (disch := omega) only [if_pos, if_neg] | refine R.seq ?_ | refine LCB.text ?_ | refine LCB.quiet rfl ?_ | refine R.anyX ?_ | refine R.block ?_ | refine LCB.skip ?_ | refine LCB.exit ?_ | refine LCB.ret ?_ | ((first | refine RetOk.val hcl ?_ | refine Weak.at hcl ?_); simp only [seval, evw, List.forall_mem_cons, List.forall_mem_map, List.forall_mem_append, List.not_mem_nil, sb, ew, insA, ins_dec, ins_eta, evs_eq, encEv_def, List.map_nil, List.length_nil, beq_self_eq_true, *]) | ((first | refine LCB.cond (by simp only [seval, evx] <;> rfl) ?_ ?_ | refine wpG_split (by simp only [seval, evx] <;> rfl) ?_ ?_ | refine wxG_split (by simp only [seval, evx] <;> rfl) ?_ ?_) <;> (intro hc; try simp only [seval, nf] at hc)) | refine ACalls.inst ?_ | refine CallX.inst ?_ | (with_reducible refine And.intro ?_ ?_) | exact True.intro | refine ACalls.pure hgr.of ?_ | refine CallX.pure hgr.of ?_ | refine ACalls.pure hdo.of ?_ | refine CallX.pure hdo.of ?_ | refine ACalls.pure hAs.of ?_ | refine CallX.pure hAs.of ?_ | refine ACalls.pure hRR.of ?_ | refine CallX.pure hRR.of ?_ | refine ACalls.pure hdo2.of ?_ | refine CallX.pure hdo2.of ?_ | refine ACalls.pure hAsx.of ?_ | refine CallX.pure hAsx.of ?_ | refine ACalls.pure hS.of ?_ | refine CallX.pure hS.of ?_)
    obtain ⟨c3, c4⟩ : w.is = false ∧ ¬ w.v = 0 := by
      rcases hgd with h | h | h
      · exact absurd h c1
      · exact absurd h c2
      · exact h
    clear hgd
    repeat' (first | simp only [seval, evx, beq_self_eq_true, sb, ew, insA, ins_dec, ins_eta, evs_eq, encEv_def, List.map_nil, List.length_nil, beq_self_eq_true, *] | simp (disch := omega) only [if_pos, if_neg] | refine R.seq ?_ | refine LCB.text ?_ | refine LCB.quiet rfl ?_ | refine R.anyX ?_ | refine R.block ?_ | refine LCB.skip ?_ | refine LCB.exit ?_ | refine LCB.ret ?_ | ((first | refine RetOk.val hcl ?_ | refine Weak.at hcl ?_); simp only [seval, evw, List.forall_mem_cons, List.forall_mem_map, List.forall_mem_append, List.not_mem_nil, sb, ew, insA, ins_dec, ins_eta, evs_eq, encEv_def, List.map_nil, List.length_nil, beq_self_eq_true, *]) | ((first | refine LCB.cond (by simp only [seval, evx] <;> rfl) ?_ ?_ | refine wpG_split (by simp only [seval, evx] <;> rfl) ?_ ?_ | refine wxG_split (by simp only [seval, evx] <;> rfl) ?_ ?_) <;> (intro hc; try simp only [seval, nf] at hc)) | refine ACalls.inst ?_ | refine CallX.inst ?_ | (with_reducible refine And.intro ?_ ?_) | exact True.intro | refine ACalls.pure hgr.of ?_ | refine CallX.pure hgr.of ?_ | refine ACalls.pure hdo.of ?_ | refine CallX.pure hdo.of ?_ | refine ACalls.pure hAs.of ?_ | refine CallX.pure hAs.of ?_ | refine ACalls.pure hRR.of ?_ | refine CallX.pure hRR.of ?_ | refine ACalls.pure hdo2.of ?_ | refine CallX.pure hdo2.of ?_ | refine ACalls.pure hAsx.of ?_ | refine CallX.pure hAsx.of ?_ | refine ACalls.pure hS.of ?_ | refine CallX.pure hS.of ?_)
  rw [not_or, not_or] at hgd
  obtain ⟨c1, c2, c3⟩ := hgd
  obtain ⟨m, rfl⟩ := Int.eq_ofNat_of_zero_le (show 0 ≤ l by omega)
  have hm24 : m < 24 := by omega
  rw [if_pos hr] at hdo
  obtain ⟨hmem, hchk, _⟩ := ins_right hr
  obtain ⟨d, a, b, hd, hd2, ha, ha2, hb, hb2⟩ := places_of hchk
  obtain ⟨r1, r2, r3, r4, r5, r6⟩ := stRight_iff.1 hr
  have hl1 := stepF_len f s ask
  have hl2 := stepF_heap f s ask
  have hwok : okW w = true := by
    unfold okW
    cases hi : w.is
    · simp [hi] at c3
      simp [c3]
    · rfl
  have hr' : stRight f { s with L := s.L.set m w } = true := stRight_iff.2 ⟨r1, r2, r3, r4, r5, all_set r6 hwok⟩
  have hdo2 := step_Do_ok f { s with L := s.L.set m w } ask (by simp [hL]) (by rw [maxLen_def] at hask; omega)
  unfold stepA at hdo2
  rw [if_pos hr'] at hdo2
  have p1 := fun h1 h2 h3 => stepF_set (f := f) (s := s) (ask := ask) (l := m) (w := w) (by rw [ha, hb]; omega) h1 h2 h3
  rw [hd, ha, hb] at p1
  simp only [Int.toNat_natCast] at p1
  generalize stepF f s ask = r at *
  obtain ⟨s', ev, o⟩ := r
  simp only at hdo hl1 hl2 p1
  have hwl' : (wc s'.L).length = 48 := by rw [wc_len, hl1, hL]
  have hwl2 : (wc (s.L.set m w)).length = 48 := by rw [wc_len, List.length_set, hL]
  obtain ⟨L, heap, pc, asked⟩ := s
  simp only at r2 r3 hL hwl hl1 hl2 p1 q2
  obtain ⟨n, rfl⟩ := Int.eq_ofNat_of_zero_le r2
  have hn : n < f.length := by omega
  have hg := getD_encIns hn
  have e1 : (n : Int) < (f.length : Int) := by omega
  simp only [Int.toNat_natCast] at p1 hd ha hb
  generalize f.getD n noIns = x at *
  obtain ⟨op, xd, xa, xb, xn, xto⟩ := x
  simp only at hd ha hb
  subst hd
  subst ha
  subst hb
  have he : encIns ⟨op, (d : Int), (a : Int), (b : Int), xn, xto⟩ = [.int .i64 op, .int .i64 (d : Int), .int .i64 (a : Int), .int .i64 (b : Int), .int .i64 xn, .int .i64 xto] := rfl
  rw [he] at hg
  replace he := Hold.mk he
  have c1' : ¬ (m : Int) < 0 := by omega
  have c2' : ¬ (23 : Int) < (m : Int) := by omega
  have hwcase : w.is = true ∨ (w.is = false ∧ w.v = 0) := by
    cases hi : w.is
    · right; simp [hi] at c3; exact ⟨rfl, c3⟩
    · exact .inl rfl
  clear c1 c2 c3 hmem hchk r1 r2 r3 r4 r5 r6 hr hr' hwok q1 q3 hask
  by_cases ht : m = d ∨ m = a ∨ m = b
  · clear hdo2 p1
    have hdo2 := Hold.mk hdo
    have hAsx := Hold.mk hdo
    have hS := Hold.mk hdo
    simp only [stA_eq, rsA_eq, outA_eq, evs_eq] at *
    unfold encFn ints at *
    replace hgr := Hold.mk hgr
    replace hRR := Hold.mk hRR
    replace hAs := Hold.mk hAs
    replace hdo := Hold.mk hdo
    clear hl1 hl2 hL q2
    by_cases t1 : (d : Int) = (m : Int)
    · clear ht
      rcases hwcase with hw1 | ⟨hw1, hw2⟩
      · repeat' (first | simp only [seval, evx, beq_self_eq_true, sb, ew, insA, ins_dec, ins_eta, evs_eq, encEv_def, List.map_nil, List.length_nil, beq_self_eq_true, *] | simp (disch := omega) only [if_pos, if_neg] | refine R.seq ?_ | refine LCB.text ?_ | refine LCB.quiet rfl ?_ | refine R.anyX ?_ | refine R.block ?_ | refine LCB.skip ?_ | refine LCB.exit ?_ | refine LCB.ret ?_ | ((first | refine RetOk.val hcl ?_ | refine Weak.at hcl ?_); simp only [seval, evw, List.forall_mem_cons, List.forall_mem_map, List.forall_mem_append, List.not_mem_nil, sb, ew, insA, ins_dec, ins_eta, evs_eq, encEv_def, List.map_nil, List.length_nil, beq_self_eq_true, *]) | ((first | refine LCB.cond (by simp only [seval, evx] <;> rfl) ?_ ?_ | refine wpG_split (by simp only [seval, evx] <;> rfl) ?_ ?_ | refine wxG_split (by simp only [seval, evx] <;> rfl) ?_ ?_) <;> (intro hc; try simp only [seval, nf] at hc)) | refine ACalls.inst ?_ | refine CallX.inst ?_ | (with_reducible refine And.intro ?_ ?_) | exact True.intro | refine ACalls.pure hgr.of ?_ | refine CallX.pure hgr.of ?_ | refine ACalls.pure hdo.of ?_ | refine CallX.pure hdo.of ?_ | refine ACalls.pure hAs.of ?_ | refine CallX.pure hAs.of ?_ | refine ACalls.pure hRR.of ?_ | refine CallX.pure hRR.of ?_ | refine ACalls.pure hdo2.of ?_ | refine CallX.pure hdo2.of ?_ | refine ACalls.pure hAsx.of ?_ | refine CallX.pure hAsx.of ?_ | refine ACalls.pure hS.of ?_ | refine CallX.pure hS.of ?_)
      · repeat' (first | simp only [seval, evx, beq_self_eq_true, sb, ew, insA, ins_dec, ins_eta, evs_eq, encEv_def, List.map_nil, List.length_nil, beq_self_eq_true, *] | simp (disch := omega) only [if_pos, if_neg] | refine R.seq ?_ | refine LCB.text ?_ | refine LCB.quiet rfl ?_ | refine R.anyX ?_ | refine R.block ?_ | refine LCB.skip ?_ | refine LCB.exit ?_ | refine LCB.ret ?_ | ((first | refine RetOk.val hcl ?_ | refine Weak.at hcl ?_); simp only [seval, evw, List.forall_mem_cons, List.forall_mem_map, List.forall_mem_append, List.not_mem_nil, sb, ew, insA, ins_dec, ins_eta, evs_eq, encEv_def, List.map_nil, List.length_nil, beq_self_eq_true, *]) | ((first | refine LCB.cond (by simp only [seval, evx] <;> rfl) ?_ ?_ | refine wpG_split (by simp only [seval, evx] <;> rfl) ?_ ?_ | refine wxG_split (by simp only [seval, evx] <;> rfl) ?_ ?_) <;> (intro hc; try simp only [seval, nf] at hc)) | refine ACalls.inst ?_ | refine CallX.inst ?_ | (with_reducible refine And.intro ?_ ?_) | exact True.intro | refine ACalls.pure hgr.of ?_ | refine CallX.pure hgr.of ?_ | refine ACalls.pure hdo.of ?_ | refine CallX.pure hdo.of ?_ | refine ACalls.pure hAs.of ?_ | refine CallX.pure hAs.of ?_ | refine ACalls.pure hRR.of ?_ | refine CallX.pure hRR.of ?_ | refine ACalls.pure hdo2.of ?_ | refine CallX.pure hdo2.of ?_ | refine ACalls.pure hAsx.of ?_ | refine CallX.pure hAsx.of ?_ | refine ACalls.pure hS.of ?_ | refine CallX.pure hS.of ?_)
    by_cases t2 : (a : Int) = (m : Int)
    · clear ht
      rcases hwcase with hw1 | ⟨hw1, hw2⟩
      · repeat' (first | simp only [seval, evx, beq_self_eq_true, sb, ew, insA, ins_dec, ins_eta, evs_eq, encEv_def, List.map_nil, List.length_nil, beq_self_eq_true, *] | simp (disch := omega) only [if_pos, if_neg] | refine R.seq ?_ | refine LCB.text ?_ | refine LCB.quiet rfl ?_ | refine R.anyX ?_ | refine R.block ?_ | refine LCB.skip ?_ | refine LCB.exit ?_ | refine LCB.ret ?_ | ((first | refine RetOk.val hcl ?_ | refine Weak.at hcl ?_); simp only [seval, evw, List.forall_mem_cons, List.forall_mem_map, List.forall_mem_append, List.not_mem_nil, sb, ew, insA, ins_dec, ins_eta, evs_eq, encEv_def, List.map_nil, List.length_nil, beq_self_eq_true, *]) | ((first | refine LCB.cond (by simp only [seval, evx] <;> rfl) ?_ ?_ | refine wpG_split (by simp only [seval, evx] <;> rfl) ?_ ?_ | refine wxG_split (by simp only [seval, evx] <;> rfl) ?_ ?_) <;> (intro hc; try simp only [seval, nf] at hc)) | refine ACalls.inst ?_ | refine CallX.inst ?_ | (with_reducible refine And.intro ?_ ?_) | exact True.intro | refine ACalls.pure hgr.of ?_ | refine CallX.pure hgr.of ?_ | refine ACalls.pure hdo.of ?_ | refine CallX.pure hdo.of ?_ | refine ACalls.pure hAs.of ?_ | refine CallX.pure hAs.of ?_ | refine ACalls.pure hRR.of ?_ | refine CallX.pure hRR.of ?_ | refine ACalls.pure hdo2.of ?_ | refine CallX.pure hdo2.of ?_ | refine ACalls.pure hAsx.of ?_ | refine CallX.pure hAsx.of ?_ | refine ACalls.pure hS.of ?_ | refine CallX.pure hS.of ?_)
      · repeat' (first | simp only [seval, evx, beq_self_eq_true, sb, ew, insA, ins_dec, ins_eta, evs_eq, encEv_def, List.map_nil, List.length_nil, beq_self_eq_true, *] | simp (disch := omega) only [if_pos, if_neg] | refine R.seq ?_ | refine LCB.text ?_ | refine LCB.quiet rfl ?_ | refine R.anyX ?_ | refine R.block ?_ | refine LCB.skip ?_ | refine LCB.exit ?_ | refine LCB.ret ?_ | ((first | refine RetOk.val hcl ?_ | refine Weak.at hcl ?_); simp only [seval, evw, List.forall_mem_cons, List.forall_mem_map, List.forall_mem_append, List.not_mem_nil, sb, ew, insA, ins_dec, ins_eta, evs_eq, encEv_def, List.map_nil, List.length_nil, beq_self_eq_true, *]) | ((first | refine LCB.cond (by simp only [seval, evx] <;> rfl) ?_ ?_ | refine wpG_split (by simp only [seval, evx] <;> rfl) ?_ ?_ | refine wxG_split (by simp only [seval, evx] <;> rfl) ?_ ?_) <;> (intro hc; try simp only [seval, nf] at hc)) | refine ACalls.inst ?_ | refine CallX.inst ?_ | (with_reducible refine And.intro ?_ ?_) | exact True.intro | refine ACalls.pure hgr.of ?_ | refine CallX.pure hgr.of ?_ | refine ACalls.pure hdo.of ?_ | refine CallX.pure hdo.of ?_ | refine ACalls.pure hAs.of ?_ | refine CallX.pure hAs.of ?_ | refine ACalls.pure hRR.of ?_ | refine CallX.pure hRR.of ?_ | refine ACalls.pure hdo2.of ?_ | refine CallX.pure hdo2.of ?_ | refine ACalls.pure hAsx.of ?_ | refine CallX.pure hAsx.of ?_ | refine ACalls.pure hS.of ?_ | refine CallX.pure hS.of ?_)
    have t3 : (b : Int) = (m : Int) := by omega
    clear ht
    rcases hwcase with hw1 | ⟨hw1, hw2⟩
    · repeat' (first | simp only [seval, evx, beq_self_eq_true, sb, ew, insA, ins_dec, ins_eta, evs_eq, encEv_def, List.map_nil, List.length_nil, beq_self_eq_true, *] | simp (disch := omega) only [if_pos, if_neg] | refine R.seq ?_ | refine LCB.text ?_ | refine LCB.quiet rfl ?_ | refine R.anyX ?_ | refine R.block ?_ | refine LCB.skip ?_ | refine LCB.exit ?_ | refine LCB.ret ?_ | ((first | refine RetOk.val hcl ?_ | refine Weak.at hcl ?_); simp only [seval, evw, List.forall_mem_cons, List.forall_mem_map, List.forall_mem_append, List.not_mem_nil, sb, ew, insA, ins_dec, ins_eta, evs_eq, encEv_def, List.map_nil, List.length_nil, beq_self_eq_true, *]) | ((first | refine LCB.cond (by simp only [seval, evx] <;> rfl) ?_ ?_ | refine wpG_split (by simp only [seval, evx] <;> rfl) ?_ ?_ | refine wxG_split (by simp only [seval, evx] <;> rfl) ?_ ?_) <;> (intro hc; try simp only [seval, nf] at hc)) | refine ACalls.inst ?_ | refine CallX.inst ?_ | (with_reducible refine And.intro ?_ ?_) | exact True.intro | refine ACalls.pure hgr.of ?_ | refine CallX.pure hgr.of ?_ | refine ACalls.pure hdo.of ?_ | refine CallX.pure hdo.of ?_ | refine ACalls.pure hAs.of ?_ | refine CallX.pure hAs.of ?_ | refine ACalls.pure hRR.of ?_ | refine CallX.pure hRR.of ?_ | refine ACalls.pure hdo2.of ?_ | refine CallX.pure hdo2.of ?_ | refine ACalls.pure hAsx.of ?_ | refine CallX.pure hAsx.of ?_ | refine ACalls.pure hS.of ?_ | refine CallX.pure hS.of ?_)
    · repeat' (first | simp only [seval, evx, beq_self_eq_true, sb, ew, insA, ins_dec, ins_eta, evs_eq, encEv_def, List.map_nil, List.length_nil, beq_self_eq_true, *] | simp (disch := omega) only [if_pos, if_neg] | refine R.seq ?_ | refine LCB.text ?_ | refine LCB.quiet rfl ?_ | refine R.anyX ?_ | refine R.block ?_ | refine LCB.skip ?_ | refine LCB.exit ?_ | refine LCB.ret ?_ | ((first | refine RetOk.val hcl ?_ | refine Weak.at hcl ?_); simp only [seval, evw, List.forall_mem_cons, List.forall_mem_map, List.forall_mem_append, List.not_mem_nil, sb, ew, insA, ins_dec, ins_eta, evs_eq, encEv_def, List.map_nil, List.length_nil, beq_self_eq_true, *]) | ((first | refine LCB.cond (by simp only [seval, evx] <;> rfl) ?_ ?_ | refine wpG_split (by simp only [seval, evx] <;> rfl) ?_ ?_ | refine wxG_split (by simp only [seval, evx] <;> rfl) ?_ ?_) <;> (intro hc; try simp only [seval, nf] at hc)) | refine ACalls.inst ?_ | refine CallX.inst ?_ | (with_reducible refine And.intro ?_ ?_) | exact True.intro | refine ACalls.pure hgr.of ?_ | refine CallX.pure hgr.of ?_ | refine ACalls.pure hdo.of ?_ | refine CallX.pure hdo.of ?_ | refine ACalls.pure hAs.of ?_ | refine CallX.pure hAs.of ?_ | refine ACalls.pure hRR.of ?_ | refine CallX.pure hRR.of ?_ | refine ACalls.pure hdo2.of ?_ | refine CallX.pure hdo2.of ?_ | refine ACalls.pure hAsx.of ?_ | refine CallX.pure hAsx.of ?_ | refine ACalls.pure hS.of ?_ | refine CallX.pure hS.of ?_)
  · have t1 : ¬ (d : Int) = (m : Int) := by omega
    have t2 : ¬ (a : Int) = (m : Int) := by omega
    have t3 : ¬ (b : Int) = (m : Int) := by omega
    obtain ⟨p2, p3⟩ := p1 (by omega) (by omega) (by omega)
    rw [p2] at hdo2
    simp only at hdo2
    have hAsx := law07_As_ok s' (by rw [hl1, hL])
    have hS := ref07_Same_ok s' s' (by rw [hl1, hL]) (by rw [hl1, hL]) (by omega)
    rw [decide_eq_true rfl] at hS
    obtain ⟨L', heap', pc', asked'⟩ := s'
    simp only at hl1 p3 hwl' hdo2
    have hwl3 : (wc (L'.set m w)).length = 48 := by rw [wc_len, List.length_set, hl1, hL]
    have g1 := wr_pair (L := L') (r := [.list (heap'.map encI), .int .i64 pc', .int .i64 asked']) (i := m) (by omega)
    have g2 := wr_pair (L := L) (r := [.list (heap.map encI), .int .i64 (n : Int), .int .i64 asked]) (i := m) (by omega)
    have g3 := wr_pair (L := L'.set m w) (r := [.list (heap'.map encI), .int .i64 pc', .int .i64 asked']) (i := m) (by rw [List.length_set]; omega)
    rw [show (L'.set m w).getD m noW = w by simp [List.getD, show m < L'.length by omega]] at g3
    have g4 := wr_put2 (L := L) (r := [.list (heap.map encI), .int .i64 (n : Int), .int .i64 asked]) (i := m) w (by omega)
    have g5 := wr_put2 (L := L'.set m w) (r := [.list (heap'.map encI), .int .i64 pc', .int .i64 asked']) (i := m) (L'.getD m noW) (by rw [List.length_set]; omega)
    rw [show (L'.set m w).set m (L'.getD m noW) = L' by
      rw [List.set_set]
      have hml : m < L'.length := by omega
      apply List.ext_getElem?
      intro j
      rw [List.getElem?_set]
      by_cases hj : m = j
      · subst hj; simp [hml]
      · rw [if_neg hj]] at g5
    rw [p3] at g1 g5
    generalize L.getD m noW = u at *
    simp only [encW_def] at g1 g2 g3
    have e5 : m * 2 + 2 ≤ 51 := by omega
    have e6 : m * 2 + 2 ≤ 48 + 3 := by omega
    have e7 : (m : Int) < 24 := by omega
    simp only [stA_eq, rsA_eq, outA_eq, evs_eq] at *
    unfold encFn ints at *
    replace hgr := Hold.mk hgr
    replace hRR := Hold.mk hRR
    replace hAs := Hold.mk hAs
    replace hdo := Hold.mk hdo
    replace hdo2 := Hold.mk hdo2
    replace hAsx := Hold.mk hAsx
    replace hS := Hold.mk hS
    replace p2 := Hold.mk p2
    replace p3 := Hold.mk p3
    clear hl1 hl2 hL q2 p1 ht
    obtain ⟨wi, wv⟩ := w
    simp only at g3 g4 g5 hwcase
    rcases hwcase with rfl | ⟨rfl, rfl⟩
    · repeat' (first | simp only [seval, evx, beq_self_eq_true, sb, ew, insA, ins_dec, ins_eta, evs_eq, encEv_def, List.map_nil, List.length_nil, beq_self_eq_true, *] | simp (disch := omega) only [if_pos, if_neg] | refine R.seq ?_ | refine LCB.text ?_ | refine LCB.quiet rfl ?_ | refine R.anyX ?_ | refine R.block ?_ | refine LCB.skip ?_ | refine LCB.exit ?_ | refine LCB.ret ?_ | ((first | refine RetOk.val hcl ?_ | refine Weak.at hcl ?_); simp only [seval, evw, List.forall_mem_cons, List.forall_mem_map, List.forall_mem_append, List.not_mem_nil, sb, ew, insA, ins_dec, ins_eta, evs_eq, encEv_def, List.map_nil, List.length_nil, beq_self_eq_true, *]) | ((first | refine LCB.cond (by simp only [seval, evx] <;> rfl) ?_ ?_ | refine wpG_split (by simp only [seval, evx] <;> rfl) ?_ ?_ | refine wxG_split (by simp only [seval, evx] <;> rfl) ?_ ?_) <;> (intro hc; try simp only [seval, nf] at hc)) | refine ACalls.inst ?_ | refine CallX.inst ?_ | (with_reducible refine And.intro ?_ ?_) | exact True.intro | refine ACalls.pure hgr.of ?_ | refine CallX.pure hgr.of ?_ | refine ACalls.pure hdo.of ?_ | refine CallX.pure hdo.of ?_ | refine ACalls.pure hAs.of ?_ | refine CallX.pure hAs.of ?_ | refine ACalls.pure hRR.of ?_ | refine CallX.pure hRR.of ?_ | refine ACalls.pure hdo2.of ?_ | refine CallX.pure hdo2.of ?_ | refine ACalls.pure hAsx.of ?_ | refine CallX.pure hAsx.of ?_ | refine ACalls.pure hS.of ?_ | refine CallX.pure hS.of ?_)
    · repeat' (first | simp only [seval, evx, beq_self_eq_true, sb, ew, insA, ins_dec, ins_eta, evs_eq, encEv_def, List.map_nil, List.length_nil, beq_self_eq_true, *] | simp (disch := omega) only [if_pos, if_neg] | refine R.seq ?_ | refine LCB.text ?_ | refine LCB.quiet rfl ?_ | refine R.anyX ?_ | refine R.block ?_ | refine LCB.skip ?_ | refine LCB.exit ?_ | refine LCB.ret ?_ | ((first | refine RetOk.val hcl ?_ | refine Weak.at hcl ?_); simp only [seval, evw, List.forall_mem_cons, List.forall_mem_map, List.forall_mem_append, List.not_mem_nil, sb, ew, insA, ins_dec, ins_eta, evs_eq, encEv_def, List.map_nil, List.length_nil, beq_self_eq_true, *]) | ((first | refine LCB.cond (by simp only [seval, evx] <;> rfl) ?_ ?_ | refine wpG_split (by simp only [seval, evx] <;> rfl) ?_ ?_ | refine wxG_split (by simp only [seval, evx] <;> rfl) ?_ ?_) <;> (intro hc; try simp only [seval, nf] at hc)) | refine ACalls.inst ?_ | refine CallX.inst ?_ | (with_reducible refine And.intro ?_ ?_) | exact True.intro | refine ACalls.pure hgr.of ?_ | refine CallX.pure hgr.of ?_ | refine ACalls.pure hdo.of ?_ | refine CallX.pure hdo.of ?_ | refine ACalls.pure hAs.of ?_ | refine CallX.pure hAs.of ?_ | refine ACalls.pure hRR.of ?_ | refine CallX.pure hRR.of ?_ | refine ACalls.pure hdo2.of ?_ | refine CallX.pure hdo2.of ?_ | refine ACalls.pure hAsx.of ?_ | refine CallX.pure hAsx.of ?_ | refine ACalls.pure hS.of ?_ | refine CallX.pure hS.of ?_)

theorem stepKeeps_law : ∀ av, FitAs [.one (.list insSh), .agg stSh, .one (.list [.int .i64]), .one (.int .i64), .agg wSh] av → ACalls Tryd.prog 6 av [] fun r _ => r = .bool true := by
  rintro _ ⟨a, _, rfl, h1, b, _, rfl, h2, c, _, rfl, h3, d, _, rfl, h4, e, _, rfl, h5, rfl⟩
  obtain ⟨f, rfl, hf, _⟩ := h1.inss
  obtain ⟨s, rfl, hs, _⟩ := h2.st
  obtain ⟨l, rfl, _, hl⟩ := h3.ints
  obtain ⟨n, rfl, _⟩ := h4.i64
  obtain ⟨w, rfl, _⟩ := h5.word
  exact (StepKeeps_ok f s l n w hs hl).law

set_option maxRecDepth 100000 in
theorem stepKeeps_lifted (os : Os) (started : os.Started) (H : Type) (enc : TypeId × Value → H) :
    ReturnsInHanded {} Tryd.checked os 6 .any (fun w args => (Rows.stepKeepsSpec.pre enc Tryd.prog Tryd.f6 [] false w args ∧ laidMetH Tryd.prog laidL w) ∧ sizedMet enc Tryd.prog Tryd.f6 (OpenSpec.ofChange Rows.stepKeepsSpec) false w args)
      (Rows.stepKeepsSpec.post enc Tryd.prog Tryd.f6 false true false false) := by
  refine returnsInHanded_of_change_and (C := Tryd.checked) (X := fun w _ => laidMetH Tryd.prog laidL w) (fun _ _ _ hh h => h.of_heap hh) own_ok started (by kernel_rfl) Tryd.func6
    (ChangeSpec.witness_shaped (enc := enc) (C := Tryd.checked) (os := os) (X := fun w _ => laidMetH Tryd.prog laidL w) false (World.doorLaid Tryd.prog 400 os) #[.slice none 0 0, (.agg #[.bool false, .int .i64 0, .bool false, .int .i64 0, .bool false, .int .i64 0, .bool false, .int .i64 0, .bool false, .int .i64 0, .bool false, .int .i64 0, .bool false, .int .i64 0, .bool false, .int .i64 0, .bool false, .int .i64 0, .bool false, .int .i64 0, .bool false, .int .i64 0, .bool false, .int .i64 0, .bool false, .int .i64 0, .bool false, .int .i64 0, .bool false, .int .i64 0, .bool false, .int .i64 0, .bool false, .int .i64 0, .bool false, .int .i64 0, .bool false, .int .i64 0, .bool false, .int .i64 0, .bool false, .int .i64 0, .bool false, .int .i64 0, .bool false, .int .i64 0, .bool false, .int .i64 0, .slice none 0 0, .int .i64 0, .int .i64 0]), .slice none 0 0, .int .i64 0, (.agg #[.bool false, .int .i64 0])] 8 rfl (World.shaped_of_RefB (by kernel_rfl) (by kernel_rfl)) (by kernel_rfl) (by kernel_rfl) (by kernel_rfl) (door_met os _)) ?_
  intro W base args ds gs before hval0 hW _ _ hL _
  exact law_contract (base := base) laid_ok rfl (by kernel_rfl) (by kernel_rfl) (by kernel_rfl)
    (fun ds hl => by
      match ds, hl with
      | [d1, d2, d3, d4, d5], _ => rfl) (glob_of_laid hL) stepKeeps_law hval0 hW

set_option maxRecDepth 100000 in
theorem stepKeeps_row : Rows.StepKeepsSaid :=
  OpenClaim.holds_of_wide 6 Tryd.f6 rfl rfl rfl rfl rfl rfl rfl ⟨rfl, rfl, rfl, rfl, rfl⟩ rfl rfl rfl rfl rfl (by kernel_rfl) Tryd.func6 (by kernel_rfl)
    (of_decide_eq_true (by kernel_rfl)) (by unfold Func.isWrapper; first | (rw [if_pos (by decide +kernel)]; kernel_rfl) | (rw [if_neg (by decide +kernel)]; exact ⟨rfl, rfl⟩))
    (fun os started H enc _ => stepKeeps_lifted os started H enc)

set_option maxRecDepth 100000 in
/-- **StepKeeps.** -/
theorem stepKeeps_holds : Rows.StepKeepsCardSaid :=
  Claim7.holds_tied_plain_at .later [] [.data] true (true, "bfd71dfb10269e8ba6e027be74d69a4e50b0edb49cced56766909c0e9f3902d6") false
    stepKeeps_row (fun _ h => by cases h) (by kernel_rfl) (fun _ h => by cases h) stepKeeps_row_tie rfl ⟨rfl, rfl⟩ (by kernel_rfl) rfl
    (fun f fn hf hfn => by
      obtain rfl : f = 6 := Option.some.inj ((show Tryd.prog.funcNamed "joinery/joinerylaw07.StepKeeps" = some 6 by kernel_rfl).symm.trans hf) |>.symm
      obtain rfl : fn = Tryd.f6 := (Option.some.inj (Tryd.func6.symm.trans hfn)).symm
      exact ⟨by kernel_rfl, fun j t ht => by
        have hall : (Tryd.f6.params.toList.all fun u => !Tryd.prog.wantsStandIn u) = true := by kernel_rfl
        have hm : t ∈ Tryd.f6.params.toList := by
          have := Array.mem_of_getElem? ht
          simpa using this
        exact (show Tryd.prog.wantsStandIn t = false by simpa using List.all_eq_true.1 hall t hm)⟩)
    (by kernel_rfl)
end Go.Proofs.YtbkbehkjndmabaaDoor
