/-
  Texts of this claim, put together.
-/
import Derived.Deep.Slices
import Derived.OpenShut
import Derived.ProofKit
import Derived.Test.YtphmakopjfbmnaaDoorRows
import Derived.Test.YtphmakopjfbmnaaDoorTie
import Derived.LaidMore
import Derived.Stop.Joined
import Derived.Test.YtphmakopjfbmnaaDoorCards
import Derived.Test.YtphmakopjfbmnaaDoorZ12
namespace Go.Proofs.YtphmakopjfbmnaaDoor
open Go.RowKit
set_option linter.unusedVariables false
set_option linter.unusedSimpArgs false
theorem places_of {x : Ins} {n : Int} (h : chk x n = 0) : ∃ d a b : Nat, x.d = (d : Int) ∧ d < 24 ∧ x.a = (a : Int) ∧ a < 24 ∧ x.b = (b : Int) ∧ b < 24 := by
  rw [chk_same] at h
  unfold chkR at h
  cases hf : badFormR x with
  | true => rw [hf, if_pos rfl] at h; simp at h
  | false =>
    cases hp : badPlaceR x with
    | true => rw [hf, hp] at h; simp at h
    | false =>
      have ho : onlyR x = x := by
        unfold badFormR at hf
        simp only [Bool.or_eq_false_iff] at hf
        simpa using hf.2.1
      have hb : x.b = sel (keepB x.op) x.b := by
        have := congrArg Ins.b ho
        exact this.symm
      unfold badPlaceR at hp
      by_cases h3 : x.op ≤ 3
      · rw [if_pos h3] at hp
        simp only [Bool.not_eq_false', Bool.and_eq_true, inR, decide_eq_true_eq] at hp
        have hb0 : x.b = 0 := by
          rw [hb]
          have : keepB x.op = false := by unfold keepB; simp; omega
          rw [this]; rfl
        exact ⟨x.d.toNat, x.a.toNat, 0, by omega, by omega, by omega, by omega, by omega, by omega⟩
      · rw [if_neg h3] at hp
        simp only [Bool.not_eq_false', Bool.and_eq_true, inR, decide_eq_true_eq] at hp
        exact ⟨x.d.toNat, x.a.toNat, x.b.toNat, by omega, by omega, by omega, by omega, by omega, by omega⟩
def wAt (L : List W) (l : Int) : W := L.getD l.toNat noW
def out0 : Out := ⟨0, 0, []⟩
def stepF (f : List Ins) (s : St) (ask : List Int) : St × List Ev × Out :=
  if (usesR (f.getD s.pc.toNat noIns)).all (fun l => (wAt s.L l).is) then
    ((stepW s (f.getD s.pc.toNat noIns) ask).1, (stepW s (f.getD s.pc.toNat noIns) ask).2.1, ⟨(stepW s (f.getD s.pc.toNat noIns) ask).2.2.1, (stepW s (f.getD s.pc.toNat noIns) ask).2.2.2, if (stepW s (f.getD s.pc.toNat noIns) ask).2.2.1 = 1 then s.heap else []⟩)
  else (s, [], ⟨2, 0, []⟩)
def st0 : St := ⟨List.replicate 24 noW, [], 0, 0⟩
def z51 : List AV := [.bool false, .int .i64 0, .bool false, .int .i64 0, .bool false, .int .i64 0, .bool false, .int .i64 0, .bool false, .int .i64 0, .bool false, .int .i64 0, .bool false, .int .i64 0, .bool false, .int .i64 0, .bool false, .int .i64 0, .bool false, .int .i64 0, .bool false, .int .i64 0, .bool false, .int .i64 0, .bool false, .int .i64 0, .bool false, .int .i64 0, .bool false, .int .i64 0, .bool false, .int .i64 0, .bool false, .int .i64 0, .bool false, .int .i64 0, .bool false, .int .i64 0, .bool false, .int .i64 0, .bool false, .int .i64 0, .bool false, .int .i64 0, .bool false, .int .i64 0, .bool false, .int .i64 0, .imm (.slice none 0 0), .int .i64 0, .int .i64 0]
theorem z51_eq : z51 = [.bool false, .int .i64 0, .bool false, .int .i64 0, .bool false, .int .i64 0, .bool false, .int .i64 0, .bool false, .int .i64 0, .bool false, .int .i64 0, .bool false, .int .i64 0, .bool false, .int .i64 0, .bool false, .int .i64 0, .bool false, .int .i64 0, .bool false, .int .i64 0, .bool false, .int .i64 0, .bool false, .int .i64 0, .bool false, .int .i64 0, .bool false, .int .i64 0, .bool false, .int .i64 0, .bool false, .int .i64 0, .bool false, .int .i64 0, .bool false, .int .i64 0, .bool false, .int .i64 0, .bool false, .int .i64 0, .bool false, .int .i64 0, .bool false, .int .i64 0, .bool false, .int .i64 0, .imm (.slice none 0 0), .int .i64 0, .int .i64 0] := rfl
theorem st0_eq : stA st0 = .agg [.bool false, .int .i64 0, .bool false, .int .i64 0, .bool false, .int .i64 0, .bool false, .int .i64 0, .bool false, .int .i64 0, .bool false, .int .i64 0, .bool false, .int .i64 0, .bool false, .int .i64 0, .bool false, .int .i64 0, .bool false, .int .i64 0, .bool false, .int .i64 0, .bool false, .int .i64 0, .bool false, .int .i64 0, .bool false, .int .i64 0, .bool false, .int .i64 0, .bool false, .int .i64 0, .bool false, .int .i64 0, .bool false, .int .i64 0, .bool false, .int .i64 0, .bool false, .int .i64 0, .bool false, .int .i64 0, .bool false, .int .i64 0, .bool false, .int .i64 0, .bool false, .int .i64 0, .list [], .int .i64 0, .int .i64 0] := rfl
def stepA (f : List Ins) (s : St) (ask : List Int) : AV := if stRight f s then .tup [stA (stepF f s ask).1, evs (stepF f s ask).2.1, outA (stepF f s ask).2.2, .int .i64 0] else .tup [stA st0, evs [], outA out0, .int .i64 1]
theorem stRight_iff {f : List Ins} {s : St} : stRight f s = true ↔ fnOk f = true ∧ 0 ≤ s.pc ∧ s.pc < (f.length : Int) ∧ s.heap.length ≤ 16 ∧ 0 ≤ s.asked ∧ s.L.all okW = true := by
  unfold stRight
  simp only [Bool.and_eq_true, decide_eq_true_eq]
theorem stepW_len (s : St) (x : Ins) (ask : List Int) : (stepW s x ask).1.L.length = s.L.length := by
  unfold stepW
  simp only
  (repeat' split) <;> simp [setS, callS, moveS_len]
theorem stepW_keep (s : St) (x : Ins) (ask : List Int) (h : (stepW s x ask).2.2.1 = 1) : (stepW s x ask).1 = s := by
  revert h
  unfold stepW
  simp only
  (repeat' split) <;> simp
theorem usesR_mem {x : Ins} {l : Int} (h : l ∈ usesR x) : l = x.a ∨ l = x.b := by
  unfold usesR at h
  (repeat' split at h) <;> simp at h <;> omega
theorem usesR_len (x : Ins) : (usesR x).length ≤ 2 := by
  unfold usesR
  (repeat' split) <;> simp
set_option maxHeartbeats 4000000 in
theorem step_Do_ok (f : List Ins) (s : St) (ask : List Int) (hL : s.L.length = 24) (hask : (ask.length : Int) ≤ 9223372036854775807) : Pure Tryd.prog 39 [encFn f, stA s, ints ask] (stepA f s ask) := by
  intro H
  refine ACalls.go step_Do.low (by simp) fun hcl => ?_
  have hwl : (wc s.L).length = 48 := by rw [wc_len, hL]
  have h1 := step_Right_ok f s hL
  unfold stepA
  by_cases hR : stRight f s = true
  case neg =>
    have hR2 : stRight f s = false := by simpa using hR
    rw [if_neg hR, st0_eq, outA_eq]
    rw [hR2] at h1
    rw [stA_eq] at *
    unfold encFn ints out0 at *
    replace h1 := Hold.mk h1
    replace hL := Hold.mk hL
    clear hR hR2
    repeat' (first | simp only [seval, evx, beq_self_eq_true, sb, ew, insA, encIns, ins_dec, ins_eta, wrow_eq, evs_eq, encEv_def, List.map_cons, List.map_nil, z51_eq, *] | simp (disch := omega) only [if_pos, if_neg] | refine R.seq ?_ | refine LCB.text ?_ | refine LCB.quiet rfl ?_ | refine R.anyX ?_ | refine R.block ?_ | refine LCB.skip ?_ | refine LCB.exit ?_ | refine LCB.ret ?_ | ((first | refine RetOk.val hcl ?_ | refine Weak.at hcl ?_); simp only [seval, evw, fm, sb, ew, insA, encIns, ins_dec, ins_eta, wrow_eq, evs_eq, encEv_def, List.map_cons, List.map_nil, z51_eq, *]) | ((first | refine LCB.cond (by simp only [seval, evx] <;> rfl) ?_ ?_ | refine wpG_split (by simp only [seval, evx] <;> rfl) ?_ ?_ | refine wxG_split (by simp only [seval, evx] <;> rfl) ?_ ?_) <;> (intro hc; try simp only [seval, nf] at hc)) | refine ACalls.inst ?_ | refine CallX.inst ?_ | (with_reducible refine And.intro ?_ ?_) | exact True.intro)
    first | refine ACalls.pure (h1.of) ?_ | refine CallP.pure (h1.of) rfl ?_ | refine CallX.pure (h1.of) ?_
    repeat' (first | simp only [seval, evx, beq_self_eq_true, sb, ew, insA, encIns, ins_dec, ins_eta, wrow_eq, evs_eq, encEv_def, List.map_cons, List.map_nil, z51_eq, *] | simp (disch := omega) only [if_pos, if_neg] | refine R.seq ?_ | refine LCB.text ?_ | refine LCB.quiet rfl ?_ | refine R.anyX ?_ | refine R.block ?_ | refine LCB.skip ?_ | refine LCB.exit ?_ | refine LCB.ret ?_ | ((first | refine RetOk.val hcl ?_ | refine Weak.at hcl ?_); simp only [seval, evw, fm, sb, ew, insA, encIns, ins_dec, ins_eta, wrow_eq, evs_eq, encEv_def, List.map_cons, List.map_nil, z51_eq, *]) | ((first | refine LCB.cond (by simp only [seval, evx] <;> rfl) ?_ ?_ | refine wpG_split (by simp only [seval, evx] <;> rfl) ?_ ?_ | refine wxG_split (by simp only [seval, evx] <;> rfl) ?_ ?_) <;> (intro hc; try simp only [seval, nf] at hc)) | refine ACalls.inst ?_ | refine CallX.inst ?_ | (with_reducible refine And.intro ?_ ?_) | exact True.intro)
  rw [if_pos hR]
  rw [hR] at h1
  obtain ⟨r1, r2, r3, r4, r5, _⟩ := stRight_iff.1 hR
  obtain ⟨f1, f2, f3, _⟩ := fnOk_iff.1 r1
  obtain ⟨L, heap, pc, asked⟩ := s
  simp only at r2 r3 r4 r5 hL hwl
  obtain ⟨n, rfl⟩ := Int.eq_ofNat_of_zero_le r2
  have hn : n < f.length := by omega
  have hg := getD_encIns hn
  have hmem : f.getD n noIns ∈ f := by simp [List.getD, hn]
  obtain ⟨d, a, b, hd, hd2, ha, ha2, hb, hb2⟩ := places_of (f3 _ hmem)
  have hF : stepF f ⟨L, heap, (n : Int), asked⟩ ask = if (usesR (f.getD n noIns)).all (fun l => (wAt L l).is) then
    ((stepW ⟨L, heap, (n : Int), asked⟩ (f.getD n noIns) ask).1, (stepW ⟨L, heap, (n : Int), asked⟩ (f.getD n noIns) ask).2.1, ⟨(stepW ⟨L, heap, (n : Int), asked⟩ (f.getD n noIns) ask).2.2.1, (stepW ⟨L, heap, (n : Int), asked⟩ (f.getD n noIns) ask).2.2.2, if (stepW ⟨L, heap, (n : Int), asked⟩ (f.getD n noIns) ask).2.2.1 = 1 then heap else []⟩)
    else (⟨L, heap, (n : Int), asked⟩, [], ⟨2, 0, []⟩) := rfl
  have huse := ins_Uses_ok (f.getD n noIns)
  rw [uses_same] at huse
  have hum : ∀ l ∈ usesR (f.getD n noIns), ∃ m : Nat, l = (m : Int) ∧ m < 24 := fun l hl => by
    rcases usesR_mem hl with h | h
    · exact ⟨a, by rw [h, ha], ha2⟩
    · exact ⟨b, by rw [h, hb], hb2⟩
  have hul := usesR_len (f.getD n noIns)
  have hown := step_own_ok ⟨L, heap, (n : Int), asked⟩ hL (by simp only; omega)
  have hsl := stepW_len ⟨L, heap, (n : Int), asked⟩ (f.getD n noIns) ask
  have hsk := stepW_keep ⟨L, heap, (n : Int), asked⟩ (f.getD n noIns) ask
  have e1 : (n : Int) < (f.length : Int) := by omega
  have hdo := fun (G : List AObj) (k : Nat) hk hx => work_do_ok (H := G) (k := k) (s := ⟨L, heap, (n : Int), asked⟩) (x := f.getD n noIns) (ask := ask) d a b hd hd2 ha ha2 hb hb2 hk hx hL r5 hask (by simp only; omega) (by simp only; omega)
  generalize stepF f ⟨L, heap, (n : Int), asked⟩ ask = RES at *
  generalize f.getD n noIns = x at *
  generalize usesR x = U at *
  generalize stepW ⟨L, heap, (n : Int), asked⟩ x ask = q at *
  obtain ⟨s', ev, how, value⟩ := q
  simp only at hF hdo hsl hsk
  have hwl' : (wc s'.L).length = 48 := by rw [wc_len, hsl, hL]
  rw [insA_eq] at huse
  simp only [stA_eq, outA_eq] at h1 hown ⊢
  unfold encFn ints encInts at *
  replace h1 := Hold.mk h1
  replace hL := Hold.mk hL
  replace hF := Hold.mk hF
  replace hsl := Hold.mk hsl
  replace hsk := Hold.mk hsk
  replace huse := Hold.mk huse
  replace hum := Hold.mk hum
  replace hown := Hold.mk hown
  replace hdo := Hold.mk hdo
  replace hd := Hold.mk hd
  replace ha := Hold.mk ha
  replace hb := Hold.mk hb
  clear hR r1 f3 hmem r2 r3
  (refine R.seq ?_; refine LCB.text ?_; repeat' (first | simp only [seval, evx, beq_self_eq_true, sb, ew, insA, encIns, ins_dec, ins_eta, wrow_eq, evs_eq, encEv_def, List.map_cons, List.map_nil, z51_eq, *] | simp (disch := omega) only [if_pos, if_neg]))
  refine R.cut [(0, .list (f.map encIns)), (2, .list (ask.map encI)), (4, .ptr H.length 1 0 0), (6, .ptr (H.length + 1) 1 0 0), (8, .ptr (H.length + 2) 1 0 0)] (H ++ [.vec 51 [wc L ++ [.list (heap.map encI), .int .i64 (n : Int), .int .i64 asked]], .vec 51 [z51], .vec 3 [[.int .i64 0, .int .i64 0, .imm (.slice none 0 0)]]]) ?_ ?_
  · repeat' (first | simp only [seval, evx, beq_self_eq_true, sb, ew, insA, encIns, ins_dec, ins_eta, wrow_eq, evs_eq, encEv_def, List.map_cons, List.map_nil, z51_eq, *] | simp (disch := omega) only [if_pos, if_neg] | refine R.seq ?_ | refine LCB.text ?_ | refine LCB.quiet rfl ?_ | refine R.anyX ?_ | refine R.block ?_ | refine LCB.skip ?_ | refine LCB.exit ?_ | refine LCB.ret ?_ | ((first | refine RetOk.val hcl ?_ | refine Weak.at hcl ?_); simp only [seval, evw, fm, sb, ew, insA, encIns, ins_dec, ins_eta, wrow_eq, evs_eq, encEv_def, List.map_cons, List.map_nil, z51_eq, *]) | ((first | refine LCB.cond (by simp only [seval, evx] <;> rfl) ?_ ?_ | refine wpG_split (by simp only [seval, evx] <;> rfl) ?_ ?_ | refine wxG_split (by simp only [seval, evx] <;> rfl) ?_ ?_) <;> (intro hc; try simp only [seval, nf] at hc)) | refine ACalls.inst ?_ | refine CallX.inst ?_ | (with_reducible refine And.intro ?_ ?_) | exact True.intro)
    first | refine ACalls.pure (h1.of) ?_ | refine CallP.pure (h1.of) rfl ?_ | refine CallX.pure (h1.of) ?_
    repeat' (first | simp only [seval, evx, beq_self_eq_true, sb, ew, insA, encIns, ins_dec, ins_eta, wrow_eq, evs_eq, encEv_def, List.map_cons, List.map_nil, z51_eq, *] | simp (disch := omega) only [if_pos, if_neg] | refine R.seq ?_ | refine LCB.text ?_ | refine LCB.quiet rfl ?_ | refine R.anyX ?_ | refine R.block ?_ | refine LCB.skip ?_ | refine LCB.exit ?_ | refine LCB.ret ?_ | ((first | refine RetOk.val hcl ?_ | refine Weak.at hcl ?_); simp only [seval, evw, fm, sb, ew, insA, encIns, ins_dec, ins_eta, wrow_eq, evs_eq, encEv_def, List.map_cons, List.map_nil, z51_eq, *]) | ((first | refine LCB.cond (by simp only [seval, evx] <;> rfl) ?_ ?_ | refine wpG_split (by simp only [seval, evx] <;> rfl) ?_ ?_ | refine wxG_split (by simp only [seval, evx] <;> rfl) ?_ ?_) <;> (intro hc; try simp only [seval, nf] at hc)) | refine ACalls.inst ?_ | refine CallX.inst ?_ | (with_reducible refine And.intro ?_ ?_) | exact True.intro)
  refine R.cut [(4, .ptr H.length 1 0 0), (6, .ptr (H.length + 1) 1 0 0), (8, .ptr (H.length + 2) 1 0 0), (10, .ptr (H.length + 3) 1 0 0)] (H ++ [.vec 51 [wc L ++ [.list (heap.map encI), .int .i64 (n : Int), .int .i64 asked]], .vec 51 [z51], .vec 3 [[.int .i64 0, .int .i64 0, .imm (.slice none 0 0)]], .vec 61 [wrow ⟨L, heap, (n : Int), asked⟩ x ask (.imm (.slice none 0 0)) 0 0]]) ?_ ?_
  · repeat' (first | simp only [seval, evx, beq_self_eq_true, sb, ew, insA, encIns, ins_dec, ins_eta, wrow_eq, evs_eq, encEv_def, List.map_cons, List.map_nil, z51_eq, *] | simp (disch := omega) only [if_pos, if_neg] | refine R.seq ?_ | refine LCB.text ?_ | refine LCB.quiet rfl ?_ | refine R.anyX ?_ | refine R.block ?_ | refine LCB.skip ?_ | refine LCB.exit ?_ | refine LCB.ret ?_ | ((first | refine RetOk.val hcl ?_ | refine Weak.at hcl ?_); simp only [seval, evw, fm, sb, ew, insA, encIns, ins_dec, ins_eta, wrow_eq, evs_eq, encEv_def, List.map_cons, List.map_nil, z51_eq, *]) | ((first | refine LCB.cond (by simp only [seval, evx] <;> rfl) ?_ ?_ | refine wpG_split (by simp only [seval, evx] <;> rfl) ?_ ?_ | refine wxG_split (by simp only [seval, evx] <;> rfl) ?_ ?_) <;> (intro hc; try simp only [seval, nf] at hc)) | refine ACalls.inst ?_ | refine CallX.inst ?_ | (with_reducible refine And.intro ?_ ?_) | exact True.intro)
    first | refine ACalls.pure (hown.of) ?_ | refine CallP.pure (hown.of) rfl ?_ | refine CallX.pure (hown.of) ?_
    repeat' (first | simp only [seval, evx, beq_self_eq_true, sb, ew, insA, encIns, ins_dec, ins_eta, wrow_eq, evs_eq, encEv_def, List.map_cons, List.map_nil, z51_eq, *] | simp (disch := omega) only [if_pos, if_neg] | refine R.seq ?_ | refine LCB.text ?_ | refine LCB.quiet rfl ?_ | refine R.anyX ?_ | refine R.block ?_ | refine LCB.skip ?_ | refine LCB.exit ?_ | refine LCB.ret ?_ | ((first | refine RetOk.val hcl ?_ | refine Weak.at hcl ?_); simp only [seval, evw, fm, sb, ew, insA, encIns, ins_dec, ins_eta, wrow_eq, evs_eq, encEv_def, List.map_cons, List.map_nil, z51_eq, *]) | ((first | refine LCB.cond (by simp only [seval, evx] <;> rfl) ?_ ?_ | refine wpG_split (by simp only [seval, evx] <;> rfl) ?_ ?_ | refine wxG_split (by simp only [seval, evx] <;> rfl) ?_ ?_) <;> (intro hc; try simp only [seval, nf] at hc)) | refine ACalls.inst ?_ | refine CallX.inst ?_ | (with_reducible refine And.intro ?_ ?_) | exact True.intro)
  refine LCB.pre (Weak.loseAt [.vec 51 [wc L ++ [.list (heap.map encI), .int .i64 (n : Int), .int .i64 asked]], .vec 51 [z51], .vec 3 [[.int .i64 0, .int .i64 0, .imm (.slice none 0 0)]], .vec 61 [wrow ⟨L, heap, (n : Int), asked⟩ x ask (.list []) 0 0]] [(4, .ptr H.length 1 0 0), (6, .ptr (H.length + 1) 1 0 0), (8, .ptr (H.length + 2) 1 0 0), (10, .ptr (H.length + 3) 1 0 0)] (by simp only [seval, evw, lk, fm, sb, ew, insA, encIns, ins_dec, ins_eta, wrow_eq, evs_eq, encEv_def, List.map_cons, List.map_nil, z51_eq, *])) ?_
  have hU : Hold (U.all (fun l => (wAt L l).is) = (U.drop 0).all (fun l => (wAt L l).is)) := ⟨rfl⟩
  repeat' (first | simp only [seval, evx, beq_self_eq_true, sb, ew, insA, encIns, ins_dec, ins_eta, wrow_eq, evs_eq, encEv_def, List.map_cons, List.map_nil, z51_eq, *] | simp (disch := omega) only [if_pos, if_neg] | refine R.seq ?_ | refine LCB.text ?_ | refine LCB.quiet rfl ?_ | refine R.anyX ?_ | refine R.block ?_ | refine LCB.skip ?_ | refine LCB.exit ?_ | refine LCB.ret ?_ | ((first | refine RetOk.val hcl ?_ | refine Weak.at hcl ?_); simp only [seval, evw, fm, sb, ew, insA, encIns, ins_dec, ins_eta, wrow_eq, evs_eq, encEv_def, List.map_cons, List.map_nil, z51_eq, *]) | ((first | refine LCB.cond (by simp only [seval, evx] <;> rfl) ?_ ?_ | refine wpG_split (by simp only [seval, evx] <;> rfl) ?_ ?_ | refine wxG_split (by simp only [seval, evx] <;> rfl) ?_ ?_) <;> (intro hc; try simp only [seval, nf] at hc)) | refine ACalls.inst ?_ | refine CallX.inst ?_ | (with_reducible refine And.intro ?_ ?_) | exact True.intro)
  first | refine ACalls.pure (huse.of) ?_ | refine CallP.pure (huse.of) rfl ?_ | refine CallX.pure (huse.of) ?_
  repeat' (first | simp only [seval, evx, beq_self_eq_true, sb, ew, insA, encIns, ins_dec, ins_eta, wrow_eq, evs_eq, encEv_def, List.map_cons, List.map_nil, z51_eq, *] | simp (disch := omega) only [if_pos, if_neg] | refine R.seq ?_ | refine LCB.text ?_ | refine LCB.quiet rfl ?_ | refine R.anyX ?_ | refine R.block ?_ | refine LCB.skip ?_ | refine LCB.exit ?_ | refine LCB.ret ?_ | ((first | refine RetOk.val hcl ?_ | refine Weak.at hcl ?_); simp only [seval, evw, fm, sb, ew, insA, encIns, ins_dec, ins_eta, wrow_eq, evs_eq, encEv_def, List.map_cons, List.map_nil, z51_eq, *]) | ((first | refine LCB.cond (by simp only [seval, evx] <;> rfl) ?_ ?_ | refine wpG_split (by simp only [seval, evx] <;> rfl) ?_ ?_ | refine wxG_split (by simp only [seval, evx] <;> rfl) ?_ ?_) <;> (intro hc; try simp only [seval, nf] at hc)) | refine ACalls.inst ?_ | refine CallX.inst ?_ | (with_reducible refine And.intro ?_ ?_) | exact True.intro)
  refine R.loop (S := Nat) ⟨fun i => [(4, .ptr H.length 1 0 0), (6, .ptr (H.length + 1) 1 0 0), (8, .ptr (H.length + 2) 1 0 0), (10, .ptr (H.length + 3) 1 0 0), (34, .list (U.map encI)), (35, .int .i64 (U.length : Int)), (36, .int .i64 (i : Int))],
    fun i => H ++ [.vec 51 [wc L ++ [.list (heap.map encI), .int .i64 (n : Int), .int .i64 asked]], .vec 51 [z51], .vec 3 [[.int .i64 0, .int .i64 0, .imm (.slice none 0 0)]], .vec 61 [wrow ⟨L, heap, (n : Int), asked⟩ x ask (.list []) 0 0]],
    fun i => i ≤ U.length ∧ U.all (fun l => (wAt L l).is) = (U.drop i).all (fun l => (wAt L l).is), fun i => U.length - i⟩ 0 ⟨Nat.zero_le _, hU.of⟩ (Weak.at hcl ?_) ?_
  · simp only [seval, evw, fm, sb, ew, insA, encIns, ins_dec, ins_eta, wrow_eq, evs_eq, encEv_def, List.map_cons, List.map_nil, z51_eq, *]
  rintro i ⟨hi, hq⟩
  simp only at hi hq ⊢
  by_cases hlt : i < U.length
  · have e2 : (i : Int) < (U.length : Int) := by omega
    have e3 : IntKind.i64.wrap ((i : Int) + 1) = ((i + 1 : Nat) : Int) := by rw [IntKind.wrap_i64]; omega
    have hgu := getD_encI hlt
    obtain ⟨m, hm, hm2⟩ := hum.of (U.getD i 0) (by simp [List.getD, hlt])
    rw [hm] at hgu
    have hdr : U.drop i = U.getD i 0 :: U.drop (i + 1) := by
      rw [List.drop_eq_getElem_cons hlt]
      simp [List.getD, hlt]
    rw [hdr, hm, List.all_cons] at hq
    have hll := hL.of
    have hgi := wr_is (L := L) (r := [.list (heap.map encI), .int .i64 (n : Int), .int .i64 asked]) (i := m) (by omega)
    have e4 : (m : Int) < 24 := by omega
    have hwm : wAt L (m : Int) = L.getD m noW := by simp [wAt]
    rw [hwm] at hq
    generalize L.getD m noW = w at *
    clear hll
    replace hm := Hold.mk hm
    replace hdr := Hold.mk hdr
    replace hwm := Hold.mk hwm
    cases hwi : w.is
    · rw [hwi] at hgi hq
      have hF2 := hF.of
      rw [hq, Bool.false_and, if_neg (by simp)] at hF2
      subst hF2
      replace hq := Hold.mk hq
      replace hwi := Hold.mk hwi
      repeat' (first | simp only [seval, evx, beq_self_eq_true, sb, ew, insA, encIns, ins_dec, ins_eta, wrow_eq, evs_eq, encEv_def, List.map_cons, List.map_nil, z51_eq, *] | simp (disch := omega) only [if_pos, if_neg] | refine R.seq ?_ | refine LCB.text ?_ | refine LCB.quiet rfl ?_ | refine R.anyX ?_ | refine R.block ?_ | refine LCB.skip ?_ | refine LCB.exit ?_ | refine LCB.ret ?_ | ((first | refine RetOk.val hcl ?_ | refine Weak.at hcl ?_); simp only [seval, evw, fm, sb, ew, insA, encIns, ins_dec, ins_eta, wrow_eq, evs_eq, encEv_def, List.map_cons, List.map_nil, z51_eq, *]) | ((first | refine LCB.cond (by simp only [seval, evx] <;> rfl) ?_ ?_ | refine wpG_split (by simp only [seval, evx] <;> rfl) ?_ ?_ | refine wxG_split (by simp only [seval, evx] <;> rfl) ?_ ?_) <;> (intro hc; try simp only [seval, nf] at hc)) | refine ACalls.inst ?_ | refine CallX.inst ?_ | (with_reducible refine And.intro ?_ ?_) | exact True.intro)
    · rw [hwi, Bool.true_and] at hq
      rw [hwi] at hgi
      replace hq := Hold.mk hq
      replace hwi := Hold.mk hwi
      repeat' (first | simp only [seval, evx, beq_self_eq_true, sb, ew, insA, encIns, ins_dec, ins_eta, wrow_eq, evs_eq, encEv_def, List.map_cons, List.map_nil, z51_eq, *] | simp (disch := omega) only [if_pos, if_neg] | refine R.seq ?_ | refine LCB.text ?_ | refine LCB.quiet rfl ?_ | refine R.anyX ?_ | refine R.block ?_ | refine LCB.skip ?_ | refine LCB.exit ?_ | refine LCB.ret ?_ | ((first | refine RetOk.val hcl ?_ | refine Weak.at hcl ?_); simp only [seval, evw, fm, sb, ew, insA, encIns, ins_dec, ins_eta, wrow_eq, evs_eq, encEv_def, List.map_cons, List.map_nil, z51_eq, *]) | ((first | refine LCB.cond (by simp only [seval, evx] <;> rfl) ?_ ?_ | refine wpG_split (by simp only [seval, evx] <;> rfl) ?_ ?_ | refine wxG_split (by simp only [seval, evx] <;> rfl) ?_ ?_) <;> (intro hc; try simp only [seval, nf] at hc)) | refine ACalls.inst ?_ | refine CallX.inst ?_ | (with_reducible refine And.intro ?_ ?_) | exact True.intro)
      refine ⟨i + 1, ⟨hlt, hq.of⟩, by simp only; omega, Weak.at hcl ?_⟩
      simp only [seval, evw, fm, sb, ew, insA, encIns, ins_dec, ins_eta, wrow_eq, evs_eq, encEv_def, List.map_cons, List.map_nil, z51_eq, *]
  · have hie : i = U.length := by omega
    subst hie
    have e2 : ¬ (U.length : Int) < (U.length : Int) := by omega
    rw [List.drop_length, List.all_nil] at hq
    have hF2 := hF.of
    rw [hq, if_pos rfl] at hF2
    subst hF2
    replace hq := Hold.mk hq
    have hd2' := hdo.of (H ++ [.vec 51 [wc L ++ [.list (heap.map encI), .int .i64 (n : Int), .int .i64 asked]], .vec 51 [z51], .vec 3 [[.int .i64 0, .int .i64 0, .imm (.slice none 0 0)]], .vec 61 [wrow ⟨L, heap, (n : Int), asked⟩ x ask (.list []) 0 0]]) (H.length + 3) (by simp) (by rw [hp_get]; rfl)
    replace hd2' := Hold.mk hd2'
    repeat' (first | simp only [seval, evx, beq_self_eq_true, sb, ew, insA, encIns, ins_dec, ins_eta, wrow_eq, evs_eq, encEv_def, List.map_cons, List.map_nil, z51_eq, *] | simp (disch := omega) only [if_pos, if_neg] | refine R.seq ?_ | refine LCB.text ?_ | refine LCB.quiet rfl ?_ | refine R.anyX ?_ | refine R.block ?_ | refine LCB.skip ?_ | refine LCB.exit ?_ | refine LCB.ret ?_ | ((first | refine RetOk.val hcl ?_ | refine Weak.at hcl ?_); simp only [seval, evw, fm, sb, ew, insA, encIns, ins_dec, ins_eta, wrow_eq, evs_eq, encEv_def, List.map_cons, List.map_nil, z51_eq, *]) | ((first | refine LCB.cond (by simp only [seval, evx] <;> rfl) ?_ ?_ | refine wpG_split (by simp only [seval, evx] <;> rfl) ?_ ?_ | refine wxG_split (by simp only [seval, evx] <;> rfl) ?_ ?_) <;> (intro hc; try simp only [seval, nf] at hc)) | refine ACalls.inst ?_ | refine CallX.inst ?_ | (with_reducible refine And.intro ?_ ?_) | exact True.intro)
    refine hd2'.of.mono ?_
    rintro r' H' ⟨rfl, rfl⟩
    by_cases h1w : how = 1
    · subst h1w
      have hs'' := hsk.of rfl
      subst hs''
      have rk : rowsOk 1 (heap.map encI) = true := rk_map fun x _ => ⟨rfl, rfl⟩
      have b1 : heap.length * 8 ≤ 140737488355328 := by omega
      have b2 : heap.length ≤ 9223372036854775807 := by omega
      have b3 : (0 + heap.length) * 8 ≤ 140737488355328 := by omega
      repeat' (first | simp only [seval, evx, beq_self_eq_true, sb, ew, insA, encIns, ins_dec, ins_eta, wrow_eq, evs_eq, encEv_def, List.map_cons, List.map_nil, z51_eq, *] | simp (disch := omega) only [if_pos, if_neg] | refine R.seq ?_ | refine LCB.text ?_ | refine LCB.quiet rfl ?_ | refine R.anyX ?_ | refine R.block ?_ | refine LCB.skip ?_ | refine LCB.exit ?_ | refine LCB.ret ?_ | ((first | refine RetOk.val hcl ?_ | refine Weak.at hcl ?_); simp only [seval, evw, fm, sb, ew, insA, encIns, ins_dec, ins_eta, wrow_eq, evs_eq, encEv_def, List.map_cons, List.map_nil, z51_eq, *]) | ((first | refine LCB.cond (by simp only [seval, evx] <;> rfl) ?_ ?_ | refine wpG_split (by simp only [seval, evx] <;> rfl) ?_ ?_ | refine wxG_split (by simp only [seval, evx] <;> rfl) ?_ ?_) <;> (intro hc; try simp only [seval, nf] at hc)) | refine ACalls.inst ?_ | refine CallX.inst ?_ | (with_reducible refine And.intro ?_ ?_) | exact True.intro)
    · rw [if_neg h1w]
      repeat' (first | simp only [seval, evx, beq_self_eq_true, sb, ew, insA, encIns, ins_dec, ins_eta, wrow_eq, evs_eq, encEv_def, List.map_cons, List.map_nil, z51_eq, *] | simp (disch := omega) only [if_pos, if_neg] | refine R.seq ?_ | refine LCB.text ?_ | refine LCB.quiet rfl ?_ | refine R.anyX ?_ | refine R.block ?_ | refine LCB.skip ?_ | refine LCB.exit ?_ | refine LCB.ret ?_ | ((first | refine RetOk.val hcl ?_ | refine Weak.at hcl ?_); simp only [seval, evw, fm, sb, ew, insA, encIns, ins_dec, ins_eta, wrow_eq, evs_eq, encEv_def, List.map_cons, List.map_nil, z51_eq, *]) | ((first | refine LCB.cond (by simp only [seval, evx] <;> rfl) ?_ ?_ | refine wpG_split (by simp only [seval, evx] <;> rfl) ?_ ?_ | refine wxG_split (by simp only [seval, evx] <;> rfl) ?_ ?_) <;> (intro hc; try simp only [seval, nf] at hc)) | refine ACalls.inst ?_ | refine CallX.inst ?_ | (with_reducible refine And.intro ?_ ?_) | exact True.intro)
end Go.Proofs.YtphmakopjfbmnaaDoor
namespace Go.Proofs.YtphmakopjfbmnaaDoor
open Go.RowKit
set_option linter.unusedVariables false
set_option linter.unusedSimpArgs false
theorem numDo_how (op a b : Int) : (numDo op a b).2 = 0 ∨ (numDo op a b).2 = 2 ∨ (numDo op a b).2 = 3 := by
  unfold numDo
  (repeat' split) <;> simp
end Go.Proofs.YtphmakopjfbmnaaDoor
namespace Go.Proofs.YtphmakopjfbmnaaDoor
open Go.RowKit
set_option linter.unusedVariables false
set_option linter.unusedSimpArgs false
theorem ACalls.views {P : Program} {f : FuncId} {H : List AObj} {args : List AV} {K : AV → List AObj → Prop} (args' : List AV) (h : Loses H H args args') (hc : ACalls P f args' H K) : ACalls P f args H K :=
  ACalls.lose ⟨rfl, fun k o p h1 h2 => .inl (by rw [h1] at h2; cases h2; rfl)⟩ h hc
def ks : St := ⟨[noW, noW, ⟨true, 5⟩] ++ List.replicate 21 noW, [], 0, 0⟩
def kt : St := ⟨[noW, ⟨true, 9⟩, ⟨true, 5⟩] ++ List.replicate 21 noW, [], 1, 1⟩
end Go.Proofs.YtphmakopjfbmnaaDoor
namespace Go.Proofs.YtphmakopjfbmnaaDoor
open Go.RowKit
set_option linter.unusedVariables false
set_option linter.unusedSimpArgs false
theorem stepF_len (f : List Ins) (s : St) (ask : List Int) : (stepF f s ask).1.L.length = s.L.length := by
  unfold stepF
  split
  · exact stepW_len _ _ _
  · rfl
theorem moveS_heap (s : St) (x : Ins) : (moveS s x).heap = s.heap := by unfold moveS; (repeat' split) <;> rfl
theorem moveS_asked (s : St) (x : Ins) : (moveS s x).asked = s.asked := by unfold moveS; (repeat' split) <;> rfl
theorem setS_heap (s : St) (d : Nat) (v how : Int) : (setS s d v how).heap = s.heap := by unfold setS; split <;> rfl
theorem setS_asked (s : St) (d : Nat) (v how : Int) : (setS s d v how).asked = s.asked := by unfold setS; split <;> rfl
theorem hStore_len (h : List Int) (a v : Int) (e : (hStore h a v).2 = 0) : (hStore h a v).1.length = h.length := by
  revert e
  unfold hStore
  split <;> simp
theorem stepW_heap (s : St) (x : Ins) (ask : List Int) : (stepW s x ask).1.heap.length = s.heap.length := by
  unfold stepW
  simp only
  split
  · split <;> simp [setS_heap]
  · split
    · split
      · rename_i h
        exact hStore_len _ _ _ h
      · rfl
    · (repeat' split) <;> simp [setS_heap, moveS_heap, callS]
theorem stepF_evs (f : List Ins) (s : St) (ask : List Int) : (stepF f s ask).2.1.length ≤ 1 := by
  unfold stepF
  split
  · unfold stepW
    simp only
    (repeat' split) <;> simp
  · simp
end Go.Proofs.YtphmakopjfbmnaaDoor
namespace Go.Proofs.YtphmakopjfbmnaaDoor
open Go.RowKit
set_option linter.unusedVariables false
set_option linter.unusedSimpArgs false
def ic (R : List Int) : List AV := R.map (AV.int .i64)
theorem ic_len (R : List Int) : (ic R).length = R.length := by simp [ic]
theorem ic_get {R : List Int} {r : List AV} {i : Nat} (h : i < R.length) : (ic R ++ r)[i]? = some (.int .i64 (R.getD i 0)) := by
  rw [List.getElem?_append_left (by rw [ic_len]; exact h)]
  simp [ic, List.getD, h]
theorem ic_clean (m : Nat) : ∀ R : List Int, cleanAll m (ic R) = true
  | [] => rfl
  | n :: R => by
    have := ic_clean m R
    show (AV.clean m (.int .i64 n) && cleanAll m (ic R)) = true
    rw [this]; rfl
theorem cl_ic {m : Nat} {R : List Int} {r : List AV} : cleanAll m (ic R ++ r) = cleanAll m r := by rw [cleanAll_app, ic_clean, Bool.true_and]
theorem ac_ic {R : List Int} {r : List AV} : allCells (ic R ++ r) = allCells r := by
  rw [ac_app]
  have : ∀ R : List Int, allCells (ic R) = true := fun R => by
    unfold allCells ic
    rw [List.all_map, List.all_eq_true]
    intro x _
    rfl
  rw [this, Bool.true_and]
theorem vws_ic {H : List AObj} {m : Nat} {R : List Int} {x y : List AV} : Views H m (ic R ++ x) (ic R ++ y) = Views H m x y := propext ⟨Views.post, Views.pre (ic_clean m R)⟩
theorem lss_ic {H G : List AObj} {R : List Int} {x y : List AV} : Loses H G (ic R ++ x) (ic R ++ y) = Loses H G x y := propext ⟨Loses.post, Loses.pre⟩
theorem ti_hi {R : List Int} {b : List AV} {n : Nat} (h : (ic R).length ≤ n) : (ic R ++ b).take n = ic R ++ b.take (n - (ic R).length) := by rw [List.take_append, List.take_of_length_le h]
theorem di_hi {R : List Int} {b : List AV} {n : Nat} (h : (ic R).length ≤ n) : (ic R ++ b).drop n = b.drop (n - (ic R).length) := by rw [List.drop_append, List.drop_of_length_le h, List.nil_append]
theorem gi_hi {R : List Int} {b : List AV} {n : Nat} (h : (ic R).length ≤ n) : (ic R ++ b)[n]? = b[n - (ic R).length]? := List.getElem?_append_right h
theorem ln_ic {R : List Int} {b : List AV} : (ic R ++ b).length = (ic R).length + b.length := List.length_append
theorem ic_app {R : List Int} {a b : List AV} : (ic R ++ a) ++ b = ic R ++ (a ++ b) := List.append_assoc _ _ _
theorem ec : type_of% (And.intro @cl_ic (And.intro @ac_ic (And.intro @vws_ic (And.intro @lss_ic (And.intro @ti_hi (And.intro @di_hi (And.intro @gi_hi (And.intro @ln_ic (@ic_app))))))))) :=
  And.intro @cl_ic (And.intro @ac_ic (And.intro @vws_ic (And.intro @lss_ic (And.intro @ti_hi (And.intro @di_hi (And.intro @gi_hi (And.intro @ln_ic (@ic_app))))))))
structure Cs where
  R : List Int
  heap : List Int
  ans : List Int
  fuel : Int
deriving DecidableEq
def csA (c : Cs) : AV := .agg (ic c.R ++ [ints c.heap, ints c.ans, .int .i64 c.fuel])
theorem csA_eq (c : Cs) : csA c = .agg (ic c.R ++ [.list (c.heap.map encI), .list (c.ans.map encI), .int .i64 c.fuel]) := rfl
def csRight (c : Cs) : Bool := decide (c.heap.length ≤ 16) && (decide (c.ans.length ≤ 5000) && (decide (0 ≤ c.fuel) && decide (c.fuel ≤ 5000)))
def csGreat (f : List Ins) (c : Cs) : Bool := decide (300 < f.length) || (decide (100 < c.heap.length) || (decide (1000 < c.ans.length) || (decide (1000 < c.fuel) && decide (c.fuel ≤ 5000))))
def beginS (c : Cs) : St := ⟨c.R.map (fun v => ⟨true, v⟩) ++ List.replicate 16 noW, c.heap, 0, 0⟩
theorem beginS_len {c : Cs} (h : c.R.length = 8) : (beginS c).L.length = 24 := by simp [beginS, h]
def bL (R : List Int) (i : Nat) : List W := (R.take i).map (fun v => ⟨true, v⟩) ++ List.replicate (24 - i) noW
theorem bL_len {R : List Int} {i : Nat} (h : R.length = 8) (hi : i ≤ 8) : (bL R i).length = 24 := by simp [bL, h]; omega
theorem bL_set {R : List Int} {i : Nat} (h : R.length = 8) (hi : i < 8) : (bL R i).set i ⟨true, R.getD i 0⟩ = bL R (i + 1) := by
  unfold bL
  have hl : ((R.take i).map (fun v => (⟨true, v⟩ : W))).length = i := by simp; omega
  rw [List.set_append_right _ _ (by omega), hl, Nat.sub_self]
  have e : 24 - i = (24 - (i + 1)) + 1 := by omega
  rw [e, List.replicate_succ, List.set_cons_zero, List.take_succ_eq_append_getElem (by omega), List.map_append, List.append_assoc]
  simp [List.getD, show i < R.length by omega]
theorem bL_end {R : List Int} (h : R.length = 8) : bL R 8 = R.map (fun v => ⟨true, v⟩) ++ List.replicate 16 noW := by
  unfold bL
  rw [List.take_of_length_le (by omega)]
theorem bL_zero (R : List Int) : bL R 0 = List.replicate 24 noW := by simp [bL]
theorem run_Right_ok (c : Cs) (hR : c.R.length = 8) : Pure Tryd.prog 36 [csA c] (.bool (csRight c)) := by
  intro H
  refine ACalls.go run_Right.low (by simp) fun hcl => ?_
  have hil : (ic c.R).length = 8 := by rw [ic_len, hR]
  have hr : csRight c = (decide (c.heap.length ≤ 16) && (decide ((c.ans.length : Int) ≤ 5000) && (decide (0 ≤ c.fuel) && decide (c.fuel ≤ 5000)))) := by
    unfold csRight
    rw [show decide (c.ans.length ≤ 5000) = decide ((c.ans.length : Int) ≤ 5000) from decide_eq_decide.2 (by omega)]
  rw [hr, csA_eq]
  replace hr := Hold.mk hr
  replace hR := Hold.mk hR
  by_cases k1 : c.heap.length ≤ 16
  case neg => repeat' (first | simp only [seval, evx, beq_self_eq_true, sb, ew, ec, evs_eq, encEv_def, List.map_nil, Nat.mul_one, *] | simp (disch := omega) only [if_pos, if_neg] | refine R.seq ?_ | refine LCB.text ?_ | refine LCB.quiet rfl ?_ | refine R.anyX ?_ | refine R.block ?_ | refine LCB.skip ?_ | refine LCB.exit ?_ | refine LCB.ret ?_ | ((first | refine RetOk.val hcl ?_ | refine Weak.at hcl ?_); simp only [seval, evw, fm, sb, ew, ec, evs_eq, encEv_def, List.map_nil, Nat.mul_one, *]) | ((first | refine LCB.cond (by simp only [seval, evx] <;> rfl) ?_ ?_ | refine wpG_split (by simp only [seval, evx] <;> rfl) ?_ ?_ | refine wxG_split (by simp only [seval, evx] <;> rfl) ?_ ?_) <;> (intro hc; try simp only [seval, nf] at hc)) | refine ACalls.inst ?_ | refine CallX.inst ?_ | (with_reducible refine And.intro ?_ ?_) | exact True.intro)
  by_cases k2 : (c.ans.length : Int) ≤ 5000
  case neg => repeat' (first | simp only [seval, evx, beq_self_eq_true, sb, ew, ec, evs_eq, encEv_def, List.map_nil, Nat.mul_one, *] | simp (disch := omega) only [if_pos, if_neg] | refine R.seq ?_ | refine LCB.text ?_ | refine LCB.quiet rfl ?_ | refine R.anyX ?_ | refine R.block ?_ | refine LCB.skip ?_ | refine LCB.exit ?_ | refine LCB.ret ?_ | ((first | refine RetOk.val hcl ?_ | refine Weak.at hcl ?_); simp only [seval, evw, fm, sb, ew, ec, evs_eq, encEv_def, List.map_nil, Nat.mul_one, *]) | ((first | refine LCB.cond (by simp only [seval, evx] <;> rfl) ?_ ?_ | refine wpG_split (by simp only [seval, evx] <;> rfl) ?_ ?_ | refine wxG_split (by simp only [seval, evx] <;> rfl) ?_ ?_) <;> (intro hc; try simp only [seval, nf] at hc)) | refine ACalls.inst ?_ | refine CallX.inst ?_ | (with_reducible refine And.intro ?_ ?_) | exact True.intro)
  by_cases k3 : 0 ≤ c.fuel
  case neg => repeat' (first | simp only [seval, evx, beq_self_eq_true, sb, ew, ec, evs_eq, encEv_def, List.map_nil, Nat.mul_one, *] | simp (disch := omega) only [if_pos, if_neg] | refine R.seq ?_ | refine LCB.text ?_ | refine LCB.quiet rfl ?_ | refine R.anyX ?_ | refine R.block ?_ | refine LCB.skip ?_ | refine LCB.exit ?_ | refine LCB.ret ?_ | ((first | refine RetOk.val hcl ?_ | refine Weak.at hcl ?_); simp only [seval, evw, fm, sb, ew, ec, evs_eq, encEv_def, List.map_nil, Nat.mul_one, *]) | ((first | refine LCB.cond (by simp only [seval, evx] <;> rfl) ?_ ?_ | refine wpG_split (by simp only [seval, evx] <;> rfl) ?_ ?_ | refine wxG_split (by simp only [seval, evx] <;> rfl) ?_ ?_) <;> (intro hc; try simp only [seval, nf] at hc)) | refine ACalls.inst ?_ | refine CallX.inst ?_ | (with_reducible refine And.intro ?_ ?_) | exact True.intro)
  repeat' (first | simp only [seval, evx, beq_self_eq_true, sb, ew, ec, evs_eq, encEv_def, List.map_nil, Nat.mul_one, *] | simp (disch := omega) only [if_pos, if_neg] | refine R.seq ?_ | refine LCB.text ?_ | refine LCB.quiet rfl ?_ | refine R.anyX ?_ | refine R.block ?_ | refine LCB.skip ?_ | refine LCB.exit ?_ | refine LCB.ret ?_ | ((first | refine RetOk.val hcl ?_ | refine Weak.at hcl ?_); simp only [seval, evw, fm, sb, ew, ec, evs_eq, encEv_def, List.map_nil, Nat.mul_one, *]) | ((first | refine LCB.cond (by simp only [seval, evx] <;> rfl) ?_ ?_ | refine wpG_split (by simp only [seval, evx] <;> rfl) ?_ ?_ | refine wxG_split (by simp only [seval, evx] <;> rfl) ?_ ?_) <;> (intro hc; try simp only [seval, nf] at hc)) | refine ACalls.inst ?_ | refine CallX.inst ?_ | (with_reducible refine And.intro ?_ ?_) | exact True.intro)
theorem law08_Great_ok (f : List Ins) (c : Cs) (hR : c.R.length = 8) : Pure Tryd.prog 13 [encFn f, csA c] (.bool (csGreat f c)) := by
  intro H
  refine ACalls.go joinerylaw08_Great.low (by simp) fun hcl => ?_
  have hil : (ic c.R).length = 8 := by rw [ic_len, hR]
  have hr : csGreat f c = (decide ((300 : Int) < (f.length : Int)) || (decide ((100 : Int) < (c.heap.length : Int)) || (decide ((1000 : Int) < (c.ans.length : Int)) || (decide (1000 < c.fuel) && decide (c.fuel ≤ 5000))))) := by
    unfold csGreat
    rw [show decide (300 < f.length) = decide ((300 : Int) < (f.length : Int)) from decide_eq_decide.2 (by omega), show decide (100 < c.heap.length) = decide ((100 : Int) < (c.heap.length : Int)) from decide_eq_decide.2 (by omega), show decide (1000 < c.ans.length) = decide ((1000 : Int) < (c.ans.length : Int)) from decide_eq_decide.2 (by omega)]
  rw [hr, csA_eq]
  unfold encFn
  replace hr := Hold.mk hr
  replace hR := Hold.mk hR
  by_cases k1 : (300 : Int) < (f.length : Int)
  case pos => repeat' (first | simp only [seval, evx, beq_self_eq_true, sb, ew, ec, evs_eq, encEv_def, List.map_nil, Nat.mul_one, *] | simp (disch := omega) only [if_pos, if_neg] | refine R.seq ?_ | refine LCB.text ?_ | refine LCB.quiet rfl ?_ | refine R.anyX ?_ | refine R.block ?_ | refine LCB.skip ?_ | refine LCB.exit ?_ | refine LCB.ret ?_ | ((first | refine RetOk.val hcl ?_ | refine Weak.at hcl ?_); simp only [seval, evw, fm, sb, ew, ec, evs_eq, encEv_def, List.map_nil, Nat.mul_one, *]) | ((first | refine LCB.cond (by simp only [seval, evx] <;> rfl) ?_ ?_ | refine wpG_split (by simp only [seval, evx] <;> rfl) ?_ ?_ | refine wxG_split (by simp only [seval, evx] <;> rfl) ?_ ?_) <;> (intro hc; try simp only [seval, nf] at hc)) | refine ACalls.inst ?_ | refine CallX.inst ?_ | (with_reducible refine And.intro ?_ ?_) | exact True.intro)
  by_cases k2 : (100 : Int) < (c.heap.length : Int)
  case pos => repeat' (first | simp only [seval, evx, beq_self_eq_true, sb, ew, ec, evs_eq, encEv_def, List.map_nil, Nat.mul_one, *] | simp (disch := omega) only [if_pos, if_neg] | refine R.seq ?_ | refine LCB.text ?_ | refine LCB.quiet rfl ?_ | refine R.anyX ?_ | refine R.block ?_ | refine LCB.skip ?_ | refine LCB.exit ?_ | refine LCB.ret ?_ | ((first | refine RetOk.val hcl ?_ | refine Weak.at hcl ?_); simp only [seval, evw, fm, sb, ew, ec, evs_eq, encEv_def, List.map_nil, Nat.mul_one, *]) | ((first | refine LCB.cond (by simp only [seval, evx] <;> rfl) ?_ ?_ | refine wpG_split (by simp only [seval, evx] <;> rfl) ?_ ?_ | refine wxG_split (by simp only [seval, evx] <;> rfl) ?_ ?_) <;> (intro hc; try simp only [seval, nf] at hc)) | refine ACalls.inst ?_ | refine CallX.inst ?_ | (with_reducible refine And.intro ?_ ?_) | exact True.intro)
  by_cases k3 : (1000 : Int) < (c.ans.length : Int)
  case pos => repeat' (first | simp only [seval, evx, beq_self_eq_true, sb, ew, ec, evs_eq, encEv_def, List.map_nil, Nat.mul_one, *] | simp (disch := omega) only [if_pos, if_neg] | refine R.seq ?_ | refine LCB.text ?_ | refine LCB.quiet rfl ?_ | refine R.anyX ?_ | refine R.block ?_ | refine LCB.skip ?_ | refine LCB.exit ?_ | refine LCB.ret ?_ | ((first | refine RetOk.val hcl ?_ | refine Weak.at hcl ?_); simp only [seval, evw, fm, sb, ew, ec, evs_eq, encEv_def, List.map_nil, Nat.mul_one, *]) | ((first | refine LCB.cond (by simp only [seval, evx] <;> rfl) ?_ ?_ | refine wpG_split (by simp only [seval, evx] <;> rfl) ?_ ?_ | refine wxG_split (by simp only [seval, evx] <;> rfl) ?_ ?_) <;> (intro hc; try simp only [seval, nf] at hc)) | refine ACalls.inst ?_ | refine CallX.inst ?_ | (with_reducible refine And.intro ?_ ?_) | exact True.intro)
  by_cases k4 : 1000 < c.fuel
  case neg => repeat' (first | simp only [seval, evx, beq_self_eq_true, sb, ew, ec, evs_eq, encEv_def, List.map_nil, Nat.mul_one, *] | simp (disch := omega) only [if_pos, if_neg] | refine R.seq ?_ | refine LCB.text ?_ | refine LCB.quiet rfl ?_ | refine R.anyX ?_ | refine R.block ?_ | refine LCB.skip ?_ | refine LCB.exit ?_ | refine LCB.ret ?_ | ((first | refine RetOk.val hcl ?_ | refine Weak.at hcl ?_); simp only [seval, evw, fm, sb, ew, ec, evs_eq, encEv_def, List.map_nil, Nat.mul_one, *]) | ((first | refine LCB.cond (by simp only [seval, evx] <;> rfl) ?_ ?_ | refine wpG_split (by simp only [seval, evx] <;> rfl) ?_ ?_ | refine wxG_split (by simp only [seval, evx] <;> rfl) ?_ ?_) <;> (intro hc; try simp only [seval, nf] at hc)) | refine ACalls.inst ?_ | refine CallX.inst ?_ | (with_reducible refine And.intro ?_ ?_) | exact True.intro)
  repeat' (first | simp only [seval, evx, beq_self_eq_true, sb, ew, ec, evs_eq, encEv_def, List.map_nil, Nat.mul_one, *] | simp (disch := omega) only [if_pos, if_neg] | refine R.seq ?_ | refine LCB.text ?_ | refine LCB.quiet rfl ?_ | refine R.anyX ?_ | refine R.block ?_ | refine LCB.skip ?_ | refine LCB.exit ?_ | refine LCB.ret ?_ | ((first | refine RetOk.val hcl ?_ | refine Weak.at hcl ?_); simp only [seval, evw, fm, sb, ew, ec, evs_eq, encEv_def, List.map_nil, Nat.mul_one, *]) | ((first | refine LCB.cond (by simp only [seval, evx] <;> rfl) ?_ ?_ | refine wpG_split (by simp only [seval, evx] <;> rfl) ?_ ?_ | refine wxG_split (by simp only [seval, evx] <;> rfl) ?_ ?_) <;> (intro hc; try simp only [seval, nf] at hc)) | refine ACalls.inst ?_ | refine CallX.inst ?_ | (with_reducible refine And.intro ?_ ?_) | exact True.intro)
set_option maxHeartbeats 2000000 in
theorem run_Begin_ok (c : Cs) (hR : c.R.length = 8) (hh : c.heap.length ≤ 1000) : Pure Tryd.prog 37 [csA c] (stA (beginS c)) := by
  intro H
  refine ACalls.go run_Begin.low (by simp) fun hcl => ?_
  have hil : (ic c.R).length = 8 := by rw [ic_len, hR]
  rw [stA_eq, csA_eq]
  have hb : (beginS c).L = bL c.R 8 := by rw [bL_end hR]; rfl
  have hb2 : (beginS c).heap = c.heap := rfl
  have hb3 : (beginS c).pc = 0 := rfl
  have hb4 : (beginS c).asked = 0 := rfl
  rw [hb, hb2, hb3, hb4]
  have rk : rowsOk 1 (c.heap.map encI) = true := rk_map fun x _ => ⟨rfl, rfl⟩
  have b1 : c.heap.length * 8 ≤ 140737488355328 := by omega
  have b2 : c.heap.length ≤ 9223372036854775807 := by omega
  have b3 : (0 + c.heap.length) * 8 ≤ 140737488355328 := by omega
  have hz : wc (bL c.R 0) = [.bool false, .int .i64 0, .bool false, .int .i64 0, .bool false, .int .i64 0, .bool false, .int .i64 0, .bool false, .int .i64 0, .bool false, .int .i64 0, .bool false, .int .i64 0, .bool false, .int .i64 0, .bool false, .int .i64 0, .bool false, .int .i64 0, .bool false, .int .i64 0, .bool false, .int .i64 0, .bool false, .int .i64 0, .bool false, .int .i64 0, .bool false, .int .i64 0, .bool false, .int .i64 0, .bool false, .int .i64 0, .bool false, .int .i64 0, .bool false, .int .i64 0, .bool false, .int .i64 0, .bool false, .int .i64 0, .bool false, .int .i64 0, .bool false, .int .i64 0, .bool false, .int .i64 0] := by rw [bL_zero]; rfl
  replace hb := Hold.mk hb
  replace hb2 := Hold.mk hb2
  replace hb3 := Hold.mk hb3
  replace hb4 := Hold.mk hb4
  replace hR := Hold.mk hR
  replace hz := Hold.mk hz
  repeat' (first | simp only [seval, evx, beq_self_eq_true, sb, ew, ec, evs_eq, encEv_def, List.map_nil, Nat.mul_one, *] | simp (disch := omega) only [if_pos, if_neg] | refine R.seq ?_ | refine LCB.text ?_ | refine LCB.quiet rfl ?_ | refine R.anyX ?_ | refine R.block ?_ | refine LCB.skip ?_ | refine LCB.exit ?_ | refine LCB.ret ?_ | ((first | refine RetOk.val hcl ?_ | refine Weak.at hcl ?_); simp only [seval, evw, fm, sb, ew, ec, evs_eq, encEv_def, List.map_nil, Nat.mul_one, *]) | ((first | refine LCB.cond (by simp only [seval, evx] <;> rfl) ?_ ?_ | refine wpG_split (by simp only [seval, evx] <;> rfl) ?_ ?_ | refine wxG_split (by simp only [seval, evx] <;> rfl) ?_ ?_) <;> (intro hc; try simp only [seval, nf] at hc)) | refine ACalls.inst ?_ | refine CallX.inst ?_ | (with_reducible refine And.intro ?_ ?_) | exact True.intro)
  refine R.loop (S := Nat) ⟨fun i => [(1, .ptr H.length 1 0 0), (2, .ptr (H.length + 1) 1 0 0), (3, .ptr (H.length + 3) 1 0 0), (10, .int .i64 (i : Int))], fun i => H ++ [.vec 11 [ic c.R ++ [.list (c.heap.map encI), .list (c.ans.map encI), .int .i64 c.fuel]], .vec 51 [[.bool false, .int .i64 0, .bool false, .int .i64 0, .bool false, .int .i64 0, .bool false, .int .i64 0, .bool false, .int .i64 0, .bool false, .int .i64 0, .bool false, .int .i64 0, .bool false, .int .i64 0, .bool false, .int .i64 0, .bool false, .int .i64 0, .bool false, .int .i64 0, .bool false, .int .i64 0, .bool false, .int .i64 0, .bool false, .int .i64 0, .bool false, .int .i64 0, .bool false, .int .i64 0, .bool false, .int .i64 0, .bool false, .int .i64 0, .bool false, .int .i64 0, .bool false, .int .i64 0, .bool false, .int .i64 0, .bool false, .int .i64 0, .bool false, .int .i64 0, .bool false, .int .i64 0, .imm (.slice none 0 0), .int .i64 0, .int .i64 0]], .gone, .vec 51 [wc (bL c.R i) ++ [.list (c.heap.map encI), .int .i64 0, .int .i64 0]]], fun i => i ≤ 8, fun i => 8 - i⟩ 0 (Nat.zero_le _) ?_ ?_
  · simp only [hz.of, List.cons_append, List.nil_append]
    refine Weak.loseAt _ _ ?_
    simp only [seval, evw, lk, fm, sb, ew, ec, evs_eq, encEv_def, List.map_nil, Nat.mul_one, *]
  intro i hi
  simp only at hi ⊢
  have hwl : (wc (bL c.R i)).length = 48 := by rw [wc_len, bL_len hR.of hi]
  by_cases hlt : i < 8
  · have e1 : (i : Int) < 8 := by omega
    have e2 : IntKind.i64.wrap ((i : Int) + 1) = ((i + 1 : Nat) : Int) := by rw [IntKind.wrap_i64]; omega
    have e3 : (i : Int) < 24 := by omega
    have e4 : i * 2 + 2 ≤ 51 := by omega
    have hg := ic_get (R := c.R) (r := [.list (c.heap.map encI), .list (c.ans.map encI), .int .i64 c.fuel]) (i := i) (by rw [hR.of]; exact hlt)
    have hp := wr_put2 (L := bL c.R i) (r := [.list (c.heap.map encI), .int .i64 0, .int .i64 0]) (i := i) ⟨true, c.R.getD i 0⟩ (by rw [bL_len hR.of hi]; omega)
    rw [bL_set hR.of hlt] at hp
    generalize c.R.getD i 0 = v at *
    simp only at hp
    repeat' (first | simp only [seval, evx, beq_self_eq_true, sb, ew, ec, evs_eq, encEv_def, List.map_nil, Nat.mul_one, *] | simp (disch := omega) only [if_pos, if_neg] | refine R.seq ?_ | refine LCB.text ?_ | refine LCB.quiet rfl ?_ | refine R.anyX ?_ | refine R.block ?_ | refine LCB.skip ?_ | refine LCB.exit ?_ | refine LCB.ret ?_ | ((first | refine RetOk.val hcl ?_ | refine Weak.at hcl ?_); simp only [seval, evw, fm, sb, ew, ec, evs_eq, encEv_def, List.map_nil, Nat.mul_one, *]) | ((first | refine LCB.cond (by simp only [seval, evx] <;> rfl) ?_ ?_ | refine wpG_split (by simp only [seval, evx] <;> rfl) ?_ ?_ | refine wxG_split (by simp only [seval, evx] <;> rfl) ?_ ?_) <;> (intro hc; try simp only [seval, nf] at hc)) | refine ACalls.inst ?_ | refine CallX.inst ?_ | (with_reducible refine And.intro ?_ ?_) | exact True.intro)
    refine ⟨i + 1, hlt, by simp only; omega, Weak.at hcl ?_⟩
    simp only [seval, evw, fm, sb, ew, ec, evs_eq, encEv_def, List.map_nil, Nat.mul_one, *]
  · have hie : i = 8 := by omega
    subst hie
    have e5 : (((8 : Nat) : Int)) = 8 := rfl
    repeat' (first | simp only [seval, evx, beq_self_eq_true, sb, ew, ec, evs_eq, encEv_def, List.map_nil, Nat.mul_one, *] | simp (disch := omega) only [if_pos, if_neg] | refine R.seq ?_ | refine LCB.text ?_ | refine LCB.quiet rfl ?_ | refine R.anyX ?_ | refine R.block ?_ | refine LCB.skip ?_ | refine LCB.exit ?_ | refine LCB.ret ?_ | ((first | refine RetOk.val hcl ?_ | refine Weak.at hcl ?_); simp only [seval, evw, fm, sb, ew, ec, evs_eq, encEv_def, List.map_nil, Nat.mul_one, *]) | ((first | refine LCB.cond (by simp only [seval, evx] <;> rfl) ?_ ?_ | refine wpG_split (by simp only [seval, evx] <;> rfl) ?_ ?_ | refine wxG_split (by simp only [seval, evx] <;> rfl) ?_ ?_) <;> (intro hc; try simp only [seval, nf] at hc)) | refine ACalls.inst ?_ | refine CallX.inst ?_ | (with_reducible refine And.intro ?_ ?_) | exact True.intro)
end Go.Proofs.YtphmakopjfbmnaaDoor
namespace Go.Proofs.YtphmakopjfbmnaaDoor
open Go.RowKit
set_option linter.unusedVariables false
set_option linter.unusedSimpArgs false
structure Tr where
  evs : List Ev
  out : Out
  steps : Int
  work : Int
deriving DecidableEq
def trA (t : Tr) : AV := .agg [evs t.evs, .int .i64 t.out.how, .int .i64 t.out.value, ints t.out.heap, .int .i64 t.steps, .int .i64 t.work]
theorem trA_eq (t : Tr) : trA t = .agg [.list (t.evs.map encEv), .int .i64 t.out.how, .int .i64 t.out.value, .list (t.out.heap.map encI), .int .i64 t.steps, .int .i64 t.work] := rfl
def tr0 : Tr := ⟨[], out0, 0, 0⟩
theorem tr0_eq : trA tr0 = .agg [.list [], .int .i64 0, .int .i64 0, .list [], .int .i64 0, .int .i64 0] := rfl
def nextT (f : List Ins) (ans : List Int) (s : St) (t : Tr) : Tr :=
  ⟨t.evs ++ (stepF f s ans).2.1, (stepF f s ans).2.2, t.steps + 1, if movesB (f.getD s.pc.toNat noIns).op then t.work else t.work + 1⟩
def onF (f : List Ins) (ans : List Int) : Nat → St → Tr → Tr × St
  | 0, s, t => (t, s)
  | n + 1, s, t => if t.out.how = 0 then onF f ans n (stepF f s ans).1 (nextT f ans s t) else (t, s)
def runF (f : List Ins) (c : Cs) : Tr × St := onF f c.ans c.fuel.toNat (beginS c) tr0
end Go.Proofs.YtphmakopjfbmnaaDoor
namespace Go.Proofs.YtphmakopjfbmnaaDoor
open Go.RowKit
set_option linter.unusedVariables false
set_option linter.unusedSimpArgs false
theorem to_of {x : Ins} {n : Int} (h : chk x n = 0) (ho : x.op = 16 ∨ x.op = 17) : 0 ≤ x.to ∧ x.to < n := by
  rw [chk_same] at h
  unfold chkR at h
  cases hf : badFormR x with
  | true => rw [hf, if_pos rfl] at h; simp at h
  | false =>
    cases hp : badPlaceR x with
    | true => rw [hf, hp] at h; simp at h
    | false =>
      rw [hf, hp] at h
      by_cases hb : ((x.op == 16 || x.op == 17) && farOff x n) = true
      · rw [hb] at h; simp at h
      · have h1 : (x.op == 16 || x.op == 17) = true := by rcases ho with h | h <;> simp [h]
        rw [h1, Bool.true_and] at hb
        unfold farOff at hb
        simp only [Bool.or_eq_true, decide_eq_true_eq, not_or] at hb
        omega
theorem all_set {L : List W} {i : Nat} {w : W} (h : L.all okW = true) (hw : okW w = true) : (L.set i w).all okW = true := by
  rw [List.all_eq_true] at h ⊢
  intro x hx
  rcases List.mem_or_eq_of_mem_set hx with h1 | rfl
  · exact h x h1
  · exact hw
theorem okW_getD {L : List W} (h : L.all okW = true) (i : Nat) : okW (L.getD i noW) = true := by
  rw [List.all_eq_true] at h
  rw [List.getD_eq_getElem?_getD]
  cases hi : L[i]? with
  | none => rfl
  | some w => exact h w (List.mem_of_getElem? hi)
theorem okW_is (v : Int) : okW ⟨true, v⟩ = true := rfl
theorem ins_right {f : List Ins} {s : St} (hs : stRight f s = true) : f.getD s.pc.toNat noIns ∈ f ∧ chk (f.getD s.pc.toNat noIns) (f.length : Int) = 0 ∧ ((f.getD s.pc.toNat noIns).op ≠ 16 → (f.getD s.pc.toNat noIns).op ≠ 18 → s.pc + 1 < (f.length : Int)) := by
  obtain ⟨r1, r2, r3, _⟩ := stRight_iff.1 hs
  obtain ⟨f1, f2, f3, f4⟩ := fnOk_iff.1 r1
  have hn : s.pc.toNat < f.length := by omega
  have hmem : f.getD s.pc.toNat noIns ∈ f := by simp [List.getD, hn]
  refine ⟨hmem, f3 _ hmem, fun h1 h2 => ?_⟩
  rcases Nat.lt_or_ge (s.pc.toNat + 1) f.length with h | h
  · omega
  · exfalso
    have e : s.pc.toNat = f.length - 1 := by omega
    unfold lastOp at f4
    rw [← e] at f4
    rcases f4 with h3 | h3
    · exact h1 h3
    · exact h2 h3
theorem stepW_right {f : List Ins} {s : St} {ask : List Int} (hs : stRight f s = true) (h0 : (stepW s (f.getD s.pc.toNat noIns) ask).2.2.1 = 0) : stRight f (stepW s (f.getD s.pc.toNat noIns) ask).1 = true := by
  obtain ⟨_, hc, hnext⟩ := ins_right hs
  have hto := fun ho => to_of hc ho
  obtain ⟨r1, r2, r3, r4, r5, r6⟩ := stRight_iff.1 hs
  have hheap := stepW_heap s (f.getD s.pc.toNat noIns) ask
  generalize f.getD s.pc.toNat noIns = x at *
  have key : ∀ s' : St, 0 ≤ s'.pc ∧ s'.pc < (f.length : Int) → s'.heap.length = s.heap.length → 0 ≤ s'.asked → s'.L.all okW = true → stRight f s' = true := fun s' h1 h2 h3 h4 => stRight_iff.2 ⟨r1, h1.1, h1.2, by omega, h3, h4⟩
  unfold stepW at h0 hheap ⊢
  simp only at h0 hheap ⊢
  by_cases o13 : x.op = 13
  · rw [if_pos o13] at h0 hheap ⊢
    have := hnext (by omega) (by omega)
    split at h0
    · rename_i hh
      rw [if_pos hh] at hheap ⊢
      refine key _ ⟨by simp only; omega, by simp only; omega⟩ hheap (by simp only [setS_asked]; omega) ?_
      simp only [setS, if_true]
      exact all_set r6 (okW_is _)
    · rename_i hh; exact absurd h0 hh
  rw [if_neg o13] at h0 hheap ⊢
  by_cases o14 : x.op = 14
  · rw [if_pos o14] at h0 hheap ⊢
    have := hnext (by omega) (by omega)
    split at h0
    · rename_i hh
      rw [if_pos hh] at hheap ⊢
      exact key _ ⟨by simp only; omega, by simp only; omega⟩ hheap r5 r6
    · rename_i hh; exact absurd h0 hh
  rw [if_neg o14] at h0 hheap ⊢
  by_cases o15 : x.op = 15
  · rw [if_pos o15] at h0 hheap ⊢
    have := hnext (by omega) (by omega)
    split at h0
    · rename_i hh
      rw [if_pos hh] at hheap ⊢
      refine key _ ⟨by simp only; omega, by simp only; omega⟩ hheap (by simp only [callS]; omega) ?_
      simp only [callS]
      exact all_set r6 (okW_is _)
    · simp at h0
  rw [if_neg o15] at h0 hheap ⊢
  by_cases o18 : x.op = 18
  · rw [if_pos o18] at h0; simp at h0
  rw [if_neg o18] at h0 hheap ⊢
  by_cases o17 : x.op = 17
  · rw [if_pos o17] at h0 hheap ⊢
    have h1 := hnext (by omega) (by omega)
    have h2 := hto (.inr o17)
    refine key _ ?_ rfl r5 r6
    simp only
    split <;> omega
  rw [if_neg o17] at h0 hheap ⊢
  by_cases o16 : x.op = 16
  · rw [if_pos o16] at h0 hheap ⊢
    have h2 := hto (.inl o16)
    exact key _ ⟨by simp only; omega, by simp only; omega⟩ rfl r5 r6
  rw [if_neg o16] at h0 hheap ⊢
  have h1 := hnext o16 o18
  by_cases om : x.op = 1 ∨ x.op = 2 ∨ x.op = 3
  · rw [if_pos om] at h0 hheap ⊢
    refine key _ ⟨by simp only; omega, by simp only; omega⟩ hheap (by simp only [moveS_asked]; omega) ?_
    simp only [moveS]
    split
    · exact all_set r6 (okW_is _)
    · split
      · exact all_set r6 (okW_getD r6 _)
      · split
        · exact all_set (all_set r6 (okW_getD r6 _)) (okW_getD r6 _)
        · exact r6
  rw [if_neg om] at h0 hheap ⊢
  split at h0
  · rename_i hh
    rw [if_pos hh] at hheap ⊢
    refine key _ ⟨by simp only; omega, by simp only; omega⟩ hheap (by simp only [setS_asked]; omega) ?_
    simp only [setS, if_true]
    exact all_set r6 (okW_is _)
  · rename_i hh; exact absurd h0 hh
theorem stepF_right {f : List Ins} {s : St} {ask : List Int} (hs : stRight f s = true) (h0 : (stepF f s ask).2.2.how = 0) : stRight f (stepF f s ask).1 = true := by
  unfold stepF at h0 ⊢
  split at h0
  · rename_i h
    rw [if_pos h]
    exact stepW_right hs h0
  · simp at h0
theorem stepW_ends {s : St} {x : Ins} {ask : List Int} (h0 : ¬ (stepW s x ask).2.2.1 = 0) : (stepW s x ask).1 = s ∧ (stepW s x ask).2.1 = [] ∧ 1 ≤ (stepW s x ask).2.2.1 ∧ (stepW s x ask).2.2.1 ≤ 5 := by
  have h1 := hLoad_how s.heap (s.L.getD x.a.toNat noW).v
  have h2 := hStore_how s.heap (s.L.getD x.a.toNat noW).v (s.L.getD x.b.toNat noW).v
  have h3 := numDo_how x.op (s.L.getD x.a.toNat noW).v (s.L.getD x.b.toNat noW).v
  revert h0
  unfold stepW
  simp only
  generalize hLoad s.heap (s.L.getD x.a.toNat noW).v = p at *
  generalize hStore s.heap (s.L.getD x.a.toNat noW).v (s.L.getD x.b.toNat noW).v = q at *
  generalize numDo x.op (s.L.getD x.a.toNat noW).v (s.L.getD x.b.toNat noW).v = r at *
  obtain ⟨p1, p2⟩ := p
  obtain ⟨q1, q2⟩ := q
  obtain ⟨r1, r2⟩ := r
  simp only at h1 h2 h3 ⊢
  (repeat' split) <;> simp <;> omega
theorem stepF_ends {f : List Ins} {s : St} {ask : List Int} (h0 : ¬ (stepF f s ask).2.2.how = 0) : (stepF f s ask).1 = s ∧ (stepF f s ask).2.1 = [] ∧ 1 ≤ (stepF f s ask).2.2.how ∧ (stepF f s ask).2.2.how ≤ 5 := by
  unfold stepF at h0 ⊢
  split at h0
  · rename_i h
    rw [if_pos h]
    exact stepW_ends h0
  · rename_i h
    rw [if_neg h]
    simp
theorem stepF_moves {f : List Ins} {s : St} {ask : List Int} (hm : movesB (f.getD s.pc.toNat noIns).op = true) : (stepF f s ask).1.heap = s.heap ∧ (stepF f s ask).1.asked = s.asked ∧ (stepF f s ask).2.1 = [] ∧ (stepF f s ask).2.2.how = 0 := by
  have ho : (f.getD s.pc.toNat noIns).op = 1 ∨ (f.getD s.pc.toNat noIns).op = 2 ∨ (f.getD s.pc.toNat noIns).op = 3 ∨ (f.getD s.pc.toNat noIns).op = 16 := by simpa [movesB] using hm
  unfold stepF
  generalize f.getD s.pc.toNat noIns = x at *
  have hu : usesR x = [] := by
    unfold usesR
    rw [if_neg (by omega), if_neg (by omega)]
  rw [hu]
  simp only [List.all_nil, if_true]
  unfold stepW
  simp only
  rw [if_neg (by omega), if_neg (by omega), if_neg (by omega), if_neg (by omega), if_neg (by omega)]
  split
  · simp
  · rw [if_pos (by omega)]
    simp [moveS_heap, moveS_asked]
theorem stepF_more {f : List Ins} {s : St} {ask more : List Int} (h0 : 0 ≤ s.asked) (h : ¬ (stepF f s ask).2.2.how = 5) : stepF f s (ask ++ more) = stepF f s ask := by
  unfold stepF at h ⊢
  split
  · rename_i hu
    rw [if_pos hu] at h
    have e : stepW s (f.getD s.pc.toNat noIns) (ask ++ more) = stepW s (f.getD s.pc.toNat noIns) ask := by
      simp only at h
      revert h
      generalize f.getD s.pc.toNat noIns = x
      intro h
      unfold stepW at h ⊢
      simp only at h ⊢
      by_cases o15 : x.op = 15
      · have n13 : ¬ x.op = 13 := by omega
        have n14 : ¬ x.op = 14 := by omega
        rw [if_neg n13, if_neg n14, if_pos o15] at h
        rw [if_neg n13, if_neg n14, if_pos o15, if_neg n13, if_neg n14, if_pos o15]
        by_cases hlt : s.asked < (ask.length : Int)
        · have hlt2 : s.asked < ((ask ++ more).length : Int) := by rw [List.length_append]; omega
          rw [if_pos hlt2, if_pos hlt]
          have : (ask ++ more).getD s.asked.toNat 0 = ask.getD s.asked.toNat 0 := by
            rw [List.getD_eq_getElem?_getD, List.getElem?_append_left (by omega), List.getD_eq_getElem?_getD]
          rw [this]
        · rw [if_neg hlt] at h; simp at h
      · simp only [if_neg o15]
    rw [e]
  · rfl
end Go.Proofs.YtphmakopjfbmnaaDoor
namespace Go.Proofs.YtphmakopjfbmnaaDoor
open Go.RowKit
set_option linter.unusedVariables false
set_option linter.unusedSimpArgs false
theorem beginS_right {f : List Ins} {c : Cs} (h1 : fnOk f = true) (h2 : csRight c = true) (hf : 0 < f.length) : stRight f (beginS c) = true := by
  unfold csRight at h2
  simp only [Bool.and_eq_true, decide_eq_true_eq] at h2
  refine stRight_iff.2 ⟨h1, Int.le_refl 0, ?_, h2.1, Int.le_refl 0, ?_⟩
  · show (0 : Int) < _
    omega
  · rw [List.all_eq_true]
    intro w hw
    have hw : w ∈ c.R.map (fun v => (⟨true, v⟩ : W)) ++ List.replicate 16 noW := hw
    rw [List.mem_append] at hw
    rcases hw with h | h
    · obtain ⟨v, _, rfl⟩ := List.mem_map.1 h
      rfl
    · rw [(List.mem_replicate.1 h).2]
      rfl
theorem z51_cl {m : Nat} : cleanAll m z51 = true := rfl
theorem z51_dr : z51.drop 51 = [] := rfl
theorem z51_ac : allCells z51 = true := rfl
theorem z51_ln : z51.length = 51 := rfl
def runA (f : List Ins) (c : Cs) : AV := if fnOk f && csRight c then .tup [trA (runF f c).1, stA (runF f c).2, .int .i64 0] else .tup [trA tr0, stA st0, .int .i64 1]
set_option maxHeartbeats 8000000 in
theorem run_Run_ok (f : List Ins) (c : Cs) (hR : c.R.length = 8) (hf : f.length ≤ 9223372036854775807) : Pure Tryd.prog 30 [encFn f, csA c] (runA f c) := by
  intro H
  refine ACalls.go run_Run.low (by simp) fun hcl => ?_
  have hil : (ic c.R).length = 8 := by rw [ic_len, hR]
  have h1 := asm_Right_ok f
  have h2 := run_Right_ok c hR
  unfold runA
  by_cases k1 : fnOk f = true
  case neg =>
    have k2 : fnOk f = false := by simpa using k1
    rw [k2] at h1 ⊢
    rw [Bool.false_and, if_neg (by decide), tr0_eq, st0_eq]
    rw [csA_eq] at *
    unfold encFn at *
    clear h2 k1 k2 hf
    replace h1 := Hold.mk h1
    replace hR := Hold.mk hR
    repeat' (first | simp only [seval, evx, beq_self_eq_true, sb, ew, ec, z51_cl, z51_dr, z51_ac, z51_ln, evs_eq, encEv_def, List.map_nil, Nat.mul_one, *] | simp (disch := omega) only [if_pos, if_neg] | refine R.seq ?_ | refine LCB.text ?_ | refine LCB.quiet rfl ?_ | refine R.anyX ?_ | refine R.block ?_ | refine LCB.skip ?_ | refine LCB.exit ?_ | refine LCB.ret ?_ | ((first | refine RetOk.val hcl ?_ | refine Weak.at hcl ?_); simp only [seval, evw, fm, sb, ew, ec, z51_cl, z51_dr, z51_ac, z51_ln, evs_eq, encEv_def, List.map_nil, Nat.mul_one, *]) | ((first | refine LCB.cond (by simp only [seval, evx] <;> rfl) ?_ ?_ | refine wpG_split (by simp only [seval, evx] <;> rfl) ?_ ?_ | refine wxG_split (by simp only [seval, evx] <;> rfl) ?_ ?_) <;> (intro hc; try simp only [seval, nf] at hc)) | refine ACalls.inst ?_ | refine CallX.inst ?_ | (with_reducible refine And.intro ?_ ?_) | exact True.intro | refine ACalls.pure h1.of ?_ | refine CallX.pure h1.of ?_ | refine ACalls.pure h2.of ?_ | refine CallX.pure h2.of ?_ | refine ACalls.pure h3.of ?_ | refine CallX.pure h3.of ?_ | refine ACalls.pure hdo.of ?_ | refine CallX.pure hdo.of ?_)
  by_cases k2 : csRight c = true
  case neg =>
    have k3 : csRight c = false := by simpa using k2
    rw [k3] at h2 ⊢
    rw [k1] at h1 ⊢
    rw [Bool.and_false, if_neg (by decide), tr0_eq, st0_eq]
    rw [csA_eq] at *
    unfold encFn at *
    clear k1 k2 k3 hf
    replace h1 := Hold.mk h1
    replace h2 := Hold.mk h2
    replace hR := Hold.mk hR
    repeat' (first | simp only [seval, evx, beq_self_eq_true, sb, ew, ec, z51_cl, z51_dr, z51_ac, z51_ln, evs_eq, encEv_def, List.map_nil, Nat.mul_one, *] | simp (disch := omega) only [if_pos, if_neg] | refine R.seq ?_ | refine LCB.text ?_ | refine LCB.quiet rfl ?_ | refine R.anyX ?_ | refine R.block ?_ | refine LCB.skip ?_ | refine LCB.exit ?_ | refine LCB.ret ?_ | ((first | refine RetOk.val hcl ?_ | refine Weak.at hcl ?_); simp only [seval, evw, fm, sb, ew, ec, z51_cl, z51_dr, z51_ac, z51_ln, evs_eq, encEv_def, List.map_nil, Nat.mul_one, *]) | ((first | refine LCB.cond (by simp only [seval, evx] <;> rfl) ?_ ?_ | refine wpG_split (by simp only [seval, evx] <;> rfl) ?_ ?_ | refine wxG_split (by simp only [seval, evx] <;> rfl) ?_ ?_) <;> (intro hc; try simp only [seval, nf] at hc)) | refine ACalls.inst ?_ | refine CallX.inst ?_ | (with_reducible refine And.intro ?_ ?_) | exact True.intro | refine ACalls.pure h1.of ?_ | refine CallX.pure h1.of ?_ | refine ACalls.pure h2.of ?_ | refine CallX.pure h2.of ?_ | refine ACalls.pure h3.of ?_ | refine CallX.pure h3.of ?_ | refine ACalls.pure hdo.of ?_ | refine CallX.pure hdo.of ?_)
  have k3 := k2
  unfold csRight at k3
  simp only [Bool.and_eq_true, decide_eq_true_eq] at k3
  obtain ⟨q1, q2, q3, q4⟩ := k3
  have h3 := run_Begin_ok c hR (by omega)
  have hlen := beginS_len hR
  have hf0 : 0 < f.length := by
    cases f
    · exact absurd k1 (by decide)
    · exact Nat.succ_pos _
  have hbr := beginS_right k1 k2 hf0
  rw [k1] at h1 ⊢
  rw [k2] at h2 ⊢
  rw [Bool.and_true, if_pos rfl]
  have hq : onF f c.ans c.fuel.toNat (beginS c) tr0 = runF f c := rfl
  clear k1 k2
  generalize beginS c = s0 at *
  generalize runF f c = RES at *
  obtain ⟨F, hF⟩ := Int.eq_ofNat_of_zero_le q3
  obtain ⟨Rg, hp, ans, fuel⟩ := c
  simp only at hF q1 q2 q4 hq hR hil
  subst hF
  rw [Int.toNat_natCast] at hq
  have hsl : (wc s0.L).length = 48 := by rw [wc_len, hlen]
  rw [csA_eq] at *
  unfold encFn at *
  rw [stA_eq s0] at h3
  simp only at h2 h3
  replace h1 := Hold.mk h1
  replace h2 := Hold.mk h2
  replace h3 := Hold.mk h3
  replace hR := Hold.mk hR
  replace hq := Hold.mk hq
  replace hbr := Hold.mk hbr
  replace hlen := Hold.mk hlen
  clear q3
  repeat' (first | simp only [seval, evx, beq_self_eq_true, sb, ew, ec, z51_cl, z51_dr, z51_ac, z51_ln, evs_eq, encEv_def, List.map_nil, Nat.mul_one, *] | simp (disch := omega) only [if_pos, if_neg] | refine R.seq ?_ | refine LCB.text ?_ | refine LCB.quiet rfl ?_ | refine R.anyX ?_ | refine R.block ?_ | refine LCB.skip ?_ | refine LCB.exit ?_ | refine LCB.ret ?_ | ((first | refine RetOk.val hcl ?_ | refine Weak.at hcl ?_); simp only [seval, evw, fm, sb, ew, ec, z51_cl, z51_dr, z51_ac, z51_ln, evs_eq, encEv_def, List.map_nil, Nat.mul_one, *]) | ((first | refine LCB.cond (by simp only [seval, evx] <;> rfl) ?_ ?_ | refine wpG_split (by simp only [seval, evx] <;> rfl) ?_ ?_ | refine wxG_split (by simp only [seval, evx] <;> rfl) ?_ ?_) <;> (intro hc; try simp only [seval, nf] at hc)) | refine ACalls.inst ?_ | refine CallX.inst ?_ | (with_reducible refine And.intro ?_ ?_) | exact True.intro | refine ACalls.pure h1.of ?_ | refine CallX.pure h1.of ?_ | refine ACalls.pure h2.of ?_ | refine CallX.pure h2.of ?_ | refine ACalls.pure h3.of ?_ | refine CallX.pure h3.of ?_ | refine ACalls.pure hdo.of ?_ | refine CallX.pure hdo.of ?_)
  refine R.loop (S := Nat × St × Tr) ⟨fun y => [(0, .list (f.map encIns)), (3, .ptr H.length 1 0 0), (4, .ptr (H.length + 1) 1 0 0), (5, .ptr (H.length + 2) 1 0 0), (7, .ptr (H.length + 3) 1 0 0), (8, .ptr (H.length + 4) 1 0 0), (26, .int .i64 (F : Int)), (27, .int .i64 (y.1 : Int))],
    fun y => H ++ [.vec 11 [ic Rg ++ [.list (hp.map encI), .list (ans.map encI), .int .i64 (F : Int)]], .vec 6 [[.imm (.slice none 0 0), .int .i64 0, .int .i64 0, .imm (.slice none 0 0), .int .i64 0, .int .i64 0]], .vec 51 [z51], .vec 6 [[.sl 3 (H.length + 5) y.2.2.evs.length 0 y.2.2.evs.length, .int .i64 y.2.2.out.how, .int .i64 y.2.2.out.value, .list (y.2.2.out.heap.map encI), .int .i64 y.2.2.steps, .int .i64 y.2.2.work]], .vec 51 [wc y.2.1.L ++ [.list (y.2.1.heap.map encI), .int .i64 y.2.1.pc, .int .i64 y.2.1.asked]], .vec 3 (y.2.2.evs.map encEv)],
    fun y => y.1 ≤ F ∧ stRight f y.2.1 = true ∧ y.2.2.out.how = 0 ∧ onF f ans (F - y.1) y.2.1 y.2.2 = RES ∧ y.2.2.steps = (y.1 : Int) ∧ y.2.2.evs.length ≤ y.1 ∧ 0 ≤ y.2.2.work ∧ y.2.2.work ≤ (y.1 : Int) ∧ y.2.1.L.length = 24, fun y => F - y.1⟩ (0, s0, tr0) ⟨Nat.zero_le _, hbr.of, rfl, hq.of, rfl, Nat.zero_le _, Int.le_refl 0, Int.le_refl 0, hlen.of⟩ ((Weak.growRow 3 0 3 (by omega) rfl rfl).trans ?_) ?_
  · refine Weak.loseAt _ _ ?_
    simp only [z51_eq, tr0, out0, List.map_nil, List.length_nil]
    simp only [seval, evw, lk, fm, sb, ew, ec, z51_cl, z51_dr, z51_ac, z51_ln, evs_eq, encEv_def, List.map_nil, Nat.mul_one, *]
  rintro ⟨i, s, t⟩ ⟨hi, hs, ht0, hq, hst, hev, hw1, hw2, hl⟩
  simp only at hi hs ht0 hq hst hev hw1 hw2 hl ⊢
  have hwl : (wc s.L).length = 48 := by rw [wc_len, hl]
  by_cases hlt : i < F
  · have e1 : (i : Int) < (F : Int) := by omega
    have e2 : IntKind.i64.wrap ((i : Int) + 1) = ((i + 1 : Nat) : Int) := by rw [IntKind.wrap_i64]; omega
    have e3 : IntKind.i64.wrap (t.steps + 1) = t.steps + 1 := by rw [IntKind.wrap_i64]; omega
    have e4 : IntKind.i64.wrap (t.work + 1) = t.work + 1 := by rw [IntKind.wrap_i64]; omega
    have hdo := step_Do_ok f s ans hl (by omega)
    unfold stepA at hdo
    rw [if_pos hs] at hdo
    have hsr := fun h => stepF_right (f := f) (s := s) (ask := ans) hs h
    have hl1 := stepF_len f s ans
    have hl2 := stepF_evs f s ans
    obtain ⟨r1, r2, r3, r4, r5, r6⟩ := stRight_iff.1 hs
    have hmv : (movesB (f.getD s.pc.toNat noIns).op = true ∧ nextT f ans s t = ⟨t.evs ++ (stepF f s ans).2.1, (stepF f s ans).2.2, t.steps + 1, t.work⟩) ∨ (movesB (f.getD s.pc.toNat noIns).op = false ∧ nextT f ans s t = ⟨t.evs ++ (stepF f s ans).2.1, (stepF f s ans).2.2, t.steps + 1, t.work + 1⟩) := by
      unfold nextT
      cases movesB (f.getD s.pc.toNat noIns).op
      · exact .inr ⟨rfl, rfl⟩
      · exact .inl ⟨rfl, rfl⟩
    have hnx : F - i = (F - (i + 1)) + 1 := by omega
    rw [hnx, onF, if_pos ht0] at hq
    generalize hT : nextT f ans s t = t' at *
    clear hT
    generalize stepF f s ans = r at *
    obtain ⟨s', ev, o⟩ := r
    simp only at hdo hsr hl1 hl2 hmv hq
    obtain ⟨L, heap, pc, asked⟩ := s
    simp only at hwl r2 r3 hl hmv hl1
    obtain ⟨n, rfl⟩ := Int.eq_ofNat_of_zero_le r2
    have hn : n < f.length := by omega
    have hg := getD_encIns hn
    have e5 : (n : Int) < (f.length : Int) := by omega
    simp only [Int.toNat_natCast] at hmv
    generalize f.getD n noIns = x at *
    obtain ⟨op, xd, xa, xb, xn, xto⟩ := x
    simp only at hmv
    have he : encIns ⟨op, xd, xa, xb, xn, xto⟩ = [.int .i64 op, .int .i64 xd, .int .i64 xa, .int .i64 xb, .int .i64 xn, .int .i64 xto] := rfl
    rw [he] at hg
    replace he := Hold.mk he
    have rk : rowsOk 3 (ev.map encEv) = true := rk_map fun x _ => ⟨rfl, rfl⟩
    have hel : (t.evs ++ ev).length = t.evs.length + ev.length := List.length_append
    obtain ⟨tev, ⟨th, tv, thp⟩, tst, twk⟩ := t
    simp only at ht0 hst hev hw1 hw2 e3 e4 hel hmv
    have tk : List.take (tev.length + ev.length) (tev.map encEv ++ ev.map encEv) = tev.map encEv ++ ev.map encEv := List.take_of_length_le (by simp)
    have b1 : (tev.length + ev.length) * 24 ≤ 140737488355328 := by omega
    have b2 : tev.length + ev.length ≤ 9223372036854775806 := by omega
    have b3 : tev.length + ev.length ≤ i + 1 := by omega
    clear r1 r2 r3 r4 r5 r6 hs hn hev
    subst ht0
    have hl3 : s'.L.length = 24 := by rw [hl1, hl]
    have hwl3 : (wc s'.L).length = 48 := by rw [wc_len, hl3]
    obtain ⟨oh, ov, ohp⟩ := o
    simp only at hsr hmv
    simp only [stA_eq, outA_eq, evs_eq] at hdo
    unfold encFn ints at hdo
    replace hdo := Hold.mk hdo
    replace hl := Hold.mk hl
    replace hl1 := Hold.mk hl1
    replace hl2 := Hold.mk hl2
    replace hl3 := Hold.mk hl3
    replace hnx := Hold.mk hnx
    replace hq := Hold.mk hq
    replace hsr := Hold.mk hsr
    replace hst := Hold.mk hst
    replace hbr := Hold.mk hbr
    replace hel := Hold.mk hel
    replace hw1 := Hold.mk hw1
    replace hw2 := Hold.mk hw2
    replace b3 := Hold.mk b3
    by_cases ho : oh = 0
    · subst ho
      rcases hmv with ⟨hm, hT⟩ | ⟨hm, hT⟩
      · replace hT := Hold.mk hT
        repeat' (first | simp only [seval, evx, beq_self_eq_true, sb, ew, ec, z51_cl, z51_dr, z51_ac, z51_ln, evs_eq, encEv_def, List.map_nil, Nat.mul_one, *] | simp (disch := omega) only [if_pos, if_neg] | refine R.seq ?_ | refine LCB.text ?_ | refine LCB.quiet rfl ?_ | refine R.anyX ?_ | refine R.block ?_ | refine LCB.skip ?_ | refine LCB.exit ?_ | refine LCB.ret ?_ | ((first | refine RetOk.val hcl ?_ | refine Weak.at hcl ?_); simp only [seval, evw, fm, sb, ew, ec, z51_cl, z51_dr, z51_ac, z51_ln, evs_eq, encEv_def, List.map_nil, Nat.mul_one, *]) | ((first | refine LCB.cond (by simp only [seval, evx] <;> rfl) ?_ ?_ | refine wpG_split (by simp only [seval, evx] <;> rfl) ?_ ?_ | refine wxG_split (by simp only [seval, evx] <;> rfl) ?_ ?_) <;> (intro hc; try simp only [seval, nf] at hc)) | refine ACalls.inst ?_ | refine CallX.inst ?_ | (with_reducible refine And.intro ?_ ?_) | exact True.intro | refine ACalls.pure h1.of ?_ | refine CallX.pure h1.of ?_ | refine ACalls.pure h2.of ?_ | refine CallX.pure h2.of ?_ | refine ACalls.pure h3.of ?_ | refine CallX.pure h3.of ?_ | refine ACalls.pure hdo.of ?_ | refine CallX.pure hdo.of ?_)
        refine ⟨(i + 1, s', t'), ⟨hlt, hsr.of rfl, by rw [hT.of], hq.of, by rw [hT.of]; show tst + 1 = _; rw [hst.of]; rfl, by rw [hT.of]; show (tev ++ ev).length ≤ _; rw [hel.of]; exact b3.of, by rw [hT.of]; exact hw1.of, by rw [hT.of]; show twk ≤ _; have := hw2.of; omega, hl3.of⟩, by simp only; omega, ?_⟩
        rw [hT.of]
        refine Weak.at hcl ?_
        simp only [seval, evw, fm, sb, ew, ec, z51_cl, z51_dr, z51_ac, z51_ln, evs_eq, encEv_def, List.map_nil, Nat.mul_one, *]
      · replace hT := Hold.mk hT
        repeat' (first | simp only [seval, evx, beq_self_eq_true, sb, ew, ec, z51_cl, z51_dr, z51_ac, z51_ln, evs_eq, encEv_def, List.map_nil, Nat.mul_one, *] | simp (disch := omega) only [if_pos, if_neg] | refine R.seq ?_ | refine LCB.text ?_ | refine LCB.quiet rfl ?_ | refine R.anyX ?_ | refine R.block ?_ | refine LCB.skip ?_ | refine LCB.exit ?_ | refine LCB.ret ?_ | ((first | refine RetOk.val hcl ?_ | refine Weak.at hcl ?_); simp only [seval, evw, fm, sb, ew, ec, z51_cl, z51_dr, z51_ac, z51_ln, evs_eq, encEv_def, List.map_nil, Nat.mul_one, *]) | ((first | refine LCB.cond (by simp only [seval, evx] <;> rfl) ?_ ?_ | refine wpG_split (by simp only [seval, evx] <;> rfl) ?_ ?_ | refine wxG_split (by simp only [seval, evx] <;> rfl) ?_ ?_) <;> (intro hc; try simp only [seval, nf] at hc)) | refine ACalls.inst ?_ | refine CallX.inst ?_ | (with_reducible refine And.intro ?_ ?_) | exact True.intro | refine ACalls.pure h1.of ?_ | refine CallX.pure h1.of ?_ | refine ACalls.pure h2.of ?_ | refine CallX.pure h2.of ?_ | refine ACalls.pure h3.of ?_ | refine CallX.pure h3.of ?_ | refine ACalls.pure hdo.of ?_ | refine CallX.pure hdo.of ?_)
        refine ⟨(i + 1, s', t'), ⟨hlt, hsr.of rfl, by rw [hT.of], hq.of, by rw [hT.of]; show tst + 1 = _; rw [hst.of]; rfl, by rw [hT.of]; show (tev ++ ev).length ≤ _; rw [hel.of]; exact b3.of, by rw [hT.of]; show 0 ≤ twk + 1; have := hw1.of; omega, by rw [hT.of]; show twk + 1 ≤ _; have := hw2.of; omega, hl3.of⟩, by simp only; omega, ?_⟩
        rw [hT.of]
        refine Weak.at hcl ?_
        simp only [seval, evw, fm, sb, ew, ec, z51_cl, z51_dr, z51_ac, z51_ln, evs_eq, encEv_def, List.map_nil, Nat.mul_one, *]
    · have hqq : (t', s') = RES := by
        have hx := hq.of
        have hto : ¬ t'.out.how = 0 := by
          rcases hmv with ⟨_, hT⟩ | ⟨_, hT⟩ <;> rw [hT] <;> exact ho
        generalize F - (i + 1) = m at hx
        cases m
        · exact hx
        · rw [onF, if_neg hto] at hx
          exact hx
      subst hqq
      clear hq
      rcases hmv with ⟨hm, hT⟩ | ⟨hm, hT⟩
      · subst hT
        simp only [trA_eq, stA_eq]
        repeat' (first | simp only [seval, evx, beq_self_eq_true, sb, ew, ec, z51_cl, z51_dr, z51_ac, z51_ln, evs_eq, encEv_def, List.map_nil, Nat.mul_one, *] | simp (disch := omega) only [if_pos, if_neg] | refine R.seq ?_ | refine LCB.text ?_ | refine LCB.quiet rfl ?_ | refine R.anyX ?_ | refine R.block ?_ | refine LCB.skip ?_ | refine LCB.exit ?_ | refine LCB.ret ?_ | ((first | refine RetOk.val hcl ?_ | refine Weak.at hcl ?_); simp only [seval, evw, fm, sb, ew, ec, z51_cl, z51_dr, z51_ac, z51_ln, evs_eq, encEv_def, List.map_nil, Nat.mul_one, *]) | ((first | refine LCB.cond (by simp only [seval, evx] <;> rfl) ?_ ?_ | refine wpG_split (by simp only [seval, evx] <;> rfl) ?_ ?_ | refine wxG_split (by simp only [seval, evx] <;> rfl) ?_ ?_) <;> (intro hc; try simp only [seval, nf] at hc)) | refine ACalls.inst ?_ | refine CallX.inst ?_ | (with_reducible refine And.intro ?_ ?_) | exact True.intro | refine ACalls.pure h1.of ?_ | refine CallX.pure h1.of ?_ | refine ACalls.pure h2.of ?_ | refine CallX.pure h2.of ?_ | refine ACalls.pure h3.of ?_ | refine CallX.pure h3.of ?_ | refine ACalls.pure hdo.of ?_ | refine CallX.pure hdo.of ?_)
      · subst hT
        simp only [trA_eq, stA_eq]
        repeat' (first | simp only [seval, evx, beq_self_eq_true, sb, ew, ec, z51_cl, z51_dr, z51_ac, z51_ln, evs_eq, encEv_def, List.map_nil, Nat.mul_one, *] | simp (disch := omega) only [if_pos, if_neg] | refine R.seq ?_ | refine LCB.text ?_ | refine LCB.quiet rfl ?_ | refine R.anyX ?_ | refine R.block ?_ | refine LCB.skip ?_ | refine LCB.exit ?_ | refine LCB.ret ?_ | ((first | refine RetOk.val hcl ?_ | refine Weak.at hcl ?_); simp only [seval, evw, fm, sb, ew, ec, z51_cl, z51_dr, z51_ac, z51_ln, evs_eq, encEv_def, List.map_nil, Nat.mul_one, *]) | ((first | refine LCB.cond (by simp only [seval, evx] <;> rfl) ?_ ?_ | refine wpG_split (by simp only [seval, evx] <;> rfl) ?_ ?_ | refine wxG_split (by simp only [seval, evx] <;> rfl) ?_ ?_) <;> (intro hc; try simp only [seval, nf] at hc)) | refine ACalls.inst ?_ | refine CallX.inst ?_ | (with_reducible refine And.intro ?_ ?_) | exact True.intro | refine ACalls.pure h1.of ?_ | refine CallX.pure h1.of ?_ | refine ACalls.pure h2.of ?_ | refine CallX.pure h2.of ?_ | refine ACalls.pure h3.of ?_ | refine CallX.pure h3.of ?_ | refine ACalls.pure hdo.of ?_ | refine CallX.pure hdo.of ?_)
  · have hie : i = F := by omega
    subst hie
    have e1 : ¬ (i : Int) < (i : Int) := Int.lt_irrefl _
    rw [Nat.sub_self] at hq
    have hqq : (t, s) = RES := hq
    subst hqq
    simp only [trA_eq, stA_eq]
    replace hs := Hold.mk hs
    replace hst := Hold.mk hst
    replace hq := Hold.mk hq
    replace hl := Hold.mk hl
    replace hbr := Hold.mk hbr
    repeat' (first | simp only [seval, evx, beq_self_eq_true, sb, ew, ec, z51_cl, z51_dr, z51_ac, z51_ln, evs_eq, encEv_def, List.map_nil, Nat.mul_one, *] | simp (disch := omega) only [if_pos, if_neg] | refine R.seq ?_ | refine LCB.text ?_ | refine LCB.quiet rfl ?_ | refine R.anyX ?_ | refine R.block ?_ | refine LCB.skip ?_ | refine LCB.exit ?_ | refine LCB.ret ?_ | ((first | refine RetOk.val hcl ?_ | refine Weak.at hcl ?_); simp only [seval, evw, fm, sb, ew, ec, z51_cl, z51_dr, z51_ac, z51_ln, evs_eq, encEv_def, List.map_nil, Nat.mul_one, *]) | ((first | refine LCB.cond (by simp only [seval, evx] <;> rfl) ?_ ?_ | refine wpG_split (by simp only [seval, evx] <;> rfl) ?_ ?_ | refine wxG_split (by simp only [seval, evx] <;> rfl) ?_ ?_) <;> (intro hc; try simp only [seval, nf] at hc)) | refine ACalls.inst ?_ | refine CallX.inst ?_ | (with_reducible refine And.intro ?_ ?_) | exact True.intro | refine ACalls.pure h1.of ?_ | refine CallX.pure h1.of ?_ | refine ACalls.pure h2.of ?_ | refine CallX.pure h2.of ?_ | refine ACalls.pure h3.of ?_ | refine CallX.pure h3.of ?_ | refine ACalls.pure hdo.of ?_ | refine CallX.pure hdo.of ?_)
end Go.Proofs.YtphmakopjfbmnaaDoor
namespace Go.Proofs.YtphmakopjfbmnaaDoor
open Go.RowKit
set_option linter.unusedVariables false
set_option linter.unusedSimpArgs false
theorem Views.cellsOf {H : List AObj} {m : Nat} : ∀ {xs bs : List AV}, Views H m xs bs → bs.length = xs.length ∧ ∀ (j : Nat) (b : AV), bs[j]? = some b → ∃ a, xs[j]? = some a ∧ View H m a b
  | [], bs, h => by
    cases h
    exact ⟨rfl, fun j b h => by simp at h⟩
  | a :: xs, bs, h => by
    cases h with
    | cons _ b _ bs h hs =>
      obtain ⟨h1, h2⟩ := Views.cellsOf hs
      refine ⟨by simp [h1], fun j x hx => ?_⟩
      cases j with
      | zero =>
        simp at hx
        subst hx
        exact ⟨a, rfl, h⟩
      | succ j => exact h2 j x (by simpa using hx)
theorem ObjV.row {H : List AObj} {m z : Nat} {a b : List AV} (hl : a.length = z) (h : Views H m a b) : ObjV H m (.vec z [a]) (.vec z [b]) := by
  obtain ⟨h1, h2⟩ := h.cellsOf
  refine .inr ⟨z, [a], [b], rfl, rfl, rfl, by simp [h1, hl], fun i j x hx => ?_⟩
  match i with
  | 0 =>
    simp [cellAt] at hx ⊢
    exact h2 j x hx
  | i + 1 => simp [cellAt] at hx
theorem Pure.views {P : Program} {g : FuncId} {args args' : List AV} {r : AV} (h : ∀ H : List AObj, Loses H H args args') (hp : Pure P g args' r) : Pure P g args r := fun H => ACalls.views args' (h H) (hp H)
end Go.Proofs.YtphmakopjfbmnaaDoor
namespace Go.Proofs.YtphmakopjfbmnaaDoor
open Go.RowKit
set_option linter.unusedVariables false
set_option linter.unusedSimpArgs false
end Go.Proofs.YtphmakopjfbmnaaDoor
namespace Go.Proofs.YtphmakopjfbmnaaDoor
open Go.RowKit
set_option linter.unusedVariables false
set_option linter.unusedSimpArgs false
inductive Sh where
  | int (k : IntKind)
  | bool
  | str
  | list (es : List Sh)
inductive Fit : Sh → AV → Prop where
  | int (k : IntKind) (n : Int) (h0 : k.min ≤ n) (h1 : n ≤ k.max) : Fit (.int k) (.int k n)
  | bool (b : Bool) : Fit .bool (.bool b)
  | str (s : ByteArray) (h : s.size ≤ maxLen) : Fit .str (.str s)
  | list (es : List Sh) (rows : List (List AV)) (hl : rows.length ≤ maxLen) (hn : ∀ r ∈ rows, r.length = es.length) (h : ∀ r ∈ rows, ∀ (i : Nat) (e : Sh) (a : AV), es[i]? = some e → r[i]? = some a → Fit e a) : Fit (.list es) (.list rows)
def FitR (es : List Sh) (r : List AV) : Prop := r.length = es.length ∧ ∀ (i : Nat) (e : Sh) (a : AV), es[i]? = some e → r[i]? = some a → Fit e a
theorem Fit.clean {e : Sh} {a : AV} (h : Fit e a) : a.clean 0 = true := by cases h <;> rfl
theorem FitR.app {es es' : List Sh} {r r' : List AV} (h : FitR es r) (h' : FitR es' r') : FitR (es ++ es') (r ++ r') := by
  refine ⟨by simp [h.1, h'.1], fun i e a he ha => ?_⟩
  by_cases hi : i < es.length
  · rw [List.getElem?_append_left hi] at he
    rw [List.getElem?_append_left (by rw [h.1]; exact hi)] at ha
    exact h.2 i e a he ha
  · rw [List.getElem?_append_right (by omega)] at he
    rw [List.getElem?_append_right (by rw [h.1]; omega)] at ha
    exact h'.2 _ e a he (by rw [← h.1]; exact ha)
theorem FitR.nil : FitR [] [] := ⟨rfl, fun i e a h => by simp at h⟩
theorem FitR.one {e : Sh} {a : AV} (h : Fit e a) : FitR [e] [a] := ⟨rfl, fun i e' a' he ha => by
  cases i with
  | zero => simp at he ha; subst he; subst ha; exact h
  | succ i => simp at he⟩
def RepL (w : World) (r : List AV) (cs : List Value) : Prop := r.length = cs.length ∧ ∀ (i : Nat) (a : AV) (v : Value), r[i]? = some a → cs[i]? = some v → RepV ⟨fun _ => none, [], w⟩ a v
theorem RepL.app {w : World} {r r' : List AV} {cs : List Value} {n : Nat} (h : RepL w r (cs.take n)) (h' : RepL w r' (cs.drop n)) : RepL w (r ++ r') cs := by
  have e : cs = cs.take n ++ cs.drop n := (List.take_append_drop n cs).symm
  refine ⟨by rw [List.length_append, h.1, h'.1, ← List.length_append, ← e], fun i a v ha hv => ?_⟩
  rw [e] at hv
  by_cases hi : i < r.length
  · rw [List.getElem?_append_left hi] at ha
    rw [List.getElem?_append_left (by rw [← h.1]; exact hi)] at hv
    exact h.2 i a v ha hv
  · rw [List.getElem?_append_right (by omega)] at ha
    rw [List.getElem?_append_right (by rw [← h.1]; omega)] at hv
    exact h'.2 _ a v ha (by rw [h.1]; exact hv)
theorem RepL.one {w : World} {a : AV} {v : Value} (h : RepV ⟨fun _ => none, [], w⟩ a v) : RepL w [a] [v] := ⟨rfl, fun i a' v' ha hv => by
  cases i with
  | zero => simp at ha hv; subst ha; subst hv; exact h
  | succ i => simp at ha⟩
def fieldShs (P : Program) (sh : TypeId → Option (List Sh)) : Nat → List Field → Option (List Sh)
  | _, [] => some []
  | off, f :: fs => match sh f.type with
    | some es => if f.offset = off ∧ P.cellsOf f.type = es.length then (fieldShs P sh (off + es.length) fs).map (es ++ ·) else none
    | none => none
def shapes (P : Program) : Nat → TypeId → Option (List Sh)
  | 0, _ => none
  | n + 1, t => match P.underlying t with
    | some (.int k) => some [.int k]
    | some .bool => some [.bool]
    | some .string => some [.str]
    | some (.slice e) => match shapes P n e with
      | some es => if P.cellsOf e = es.length ∧ 0 < es.length then some [.list es] else none
      | none => none
    | some (.array k e) => match shapes P n e with
      | some es => if P.cellsOf e = es.length ∧ P.cellsOf t = k * es.length then some (List.replicate k es).flatten else none
      | none => none
    | some (.struct fs) => match fieldShs P (shapes P n) 0 fs.toList with
      | some es => if P.cellsOf t = es.length then some es else none
      | none => none
    | _ => none
section
variable {H : Type} {enc : TypeId × Value → H} {P : Program} {w : World} {spare : Nat → Bool} {held : Bool}
theorem fields_open {sh : TypeId → Option (List Sh)} {m : Nat} {cs : List Value}
    (ih : ∀ (t : TypeId) (es : List Sh) (cs : List Value) (y : DataW H × List MemPlace), sh t = some es → DataW.trod enc P w 0 spare held m t cs = some y → ∃ r, FitR es r ∧ RepL w r cs) :
    ∀ (fs : List Field) (off : Nat) (es : List Sh), fieldShs P sh off fs = some es → off + es.length = cs.length →
      (∀ f ∈ fs, ∃ y, DataW.trod enc P w 0 spare held m f.type ((cs.drop f.offset).take (P.cellsOf f.type)) = some y) → ∃ r, FitR es r ∧ RepL w r (cs.drop off)
  | [], off, es, h, hl, _ => by
    simp only [fieldShs, Option.some.injEq] at h
    subst h
    refine ⟨[], FitR.nil, ?_, fun i a v h => by simp at h⟩
    simp at hl ⊢; omega
  | f :: fs, off, es, h, hl, hy => by
    simp only [fieldShs] at h
    split at h
    · rename_i es1 hs
      split at h
      · rename_i hc
        obtain ⟨e1, e2⟩ := hc
        simp only [Option.map_eq_some_iff] at h
        obtain ⟨es2, h2, rfl⟩ := h
        obtain ⟨y, hy1⟩ := hy f (by simp)
        obtain ⟨r1, f1, p1⟩ := ih _ _ _ _ hs hy1
        obtain ⟨r2, f2, p2⟩ := fields_open ih fs (off + es1.length) es2 h2 (by simp at hl; omega) (fun g hg => hy g (by simp [hg]))
        rw [e1, e2] at p1
        exact ⟨r1 ++ r2, f1.app f2, RepL.app (n := es1.length) p1 (by rw [List.drop_drop]; exact p2)⟩
      · simp at h
    · simp at h
theorem arr_open {e : TypeId} {es : List Sh} {m sz : Nat} {cs : List Value} (hsz : sz = es.length)
    (ih : ∀ (cs : List Value) (y : DataW H × List MemPlace), DataW.trod enc P w 0 spare held m e cs = some y → ∃ r, FitR es r ∧ RepL w r cs) :
    ∀ (k j : Nat), (j + k) * sz = cs.length → (∀ i, j ≤ i → i < j + k → ∃ y, DataW.trod enc P w 0 spare held m e ((cs.drop (i * sz)).take sz) = some y) → ∃ r, FitR (List.replicate k es).flatten r ∧ RepL w r (cs.drop (j * sz))
  | 0, j, hl, _ => ⟨[], FitR.nil, by simp at hl ⊢; omega, fun i a v h => by simp at h⟩
  | k + 1, j, hl, hy => by
    obtain ⟨y, hy1⟩ := hy j (Nat.le_refl _) (by omega)
    obtain ⟨r1, f1, p1⟩ := ih _ _ hy1
    obtain ⟨r2, f2, p2⟩ := arr_open hsz ih k (j + 1) (by rw [← hl]; congr 1; omega) (fun i h1 h2 => hy i (by omega) (by omega))
    refine ⟨r1 ++ r2, by rw [List.replicate_succ, List.flatten_cons]; exact f1.app f2, RepL.app (n := sz) p1 ?_⟩
    rw [List.drop_drop]
    rw [Nat.succ_mul] at p2
    exact p2
theorem World.cell?_spot' {w : World} {a : Addr} {v : Value} (h : w.cell? a = some v) : a.spot = none := by
  unfold World.cell? at h
  split at h
  · split at h
    · simp at h
    · rename_i hs; simpa using hs
  · simp at h
theorem sh_open : ∀ (n : Nat) (t : TypeId) (m : Nat) (es : List Sh) (cs : List Value) (y : DataW H × List MemPlace), shapes P n t = some es → DataW.trod enc P w 0 spare held m t cs = some y → ∃ r, FitR es r ∧ RepL w r cs
  | 0, t, m, es, cs, y, hs, h => by simp [shapes] at hs
  | n + 1, t, m, es, cs, y, hs, h => by
    simp only [shapes] at hs
    split at hs
    · rename_i k hu
      simp only [Option.some.injEq] at hs
      subst hs
      obtain ⟨i, rfl, _, hw⟩ := DataW.trod_int hu h
      simp only [Lit.wf, Bool.and_eq_true, decide_eq_true_eq] at hw
      exact ⟨[.int k i], FitR.one (.int k i hw.1 hw.2), RepL.one (.int k i)⟩
    · rename_i hu
      simp only [Option.some.injEq] at hs
      subst hs
      obtain ⟨b, rfl, _⟩ := DataW.trod_bool hu h
      exact ⟨[.bool b], FitR.one (.bool b), RepL.one (.bool b)⟩
    · rename_i hu
      simp only [Option.some.injEq] at hs
      subst hs
      obtain ⟨s, rfl, _, hl⟩ := DataW.trod_string hu h
      exact ⟨[.str s], FitR.one (.str s hl), RepL.one (.str s)⟩
    · rename_i e hu
      split at hs
      · rename_i es1 he
        split at hs
        · rename_i hc
          obtain ⟨hc1, hc2⟩ := hc
          simp only [Option.some.injEq] at hs
          subst hs
          rcases Go.Deep.open_slice hu h with ⟨rfl, _⟩ | ⟨a, len, cap, k, q, D, Pl, rfl, _, hl, hm, hk, _, hx⟩
          · exact ⟨[.list []], FitR.one (.list _ _ (by simp) (by simp) (by simp)), RepL.one (.lnil _ _)⟩
          · have hlk : len ≤ k := by rw [hk]; split <;> omega
            have hrow : ∀ i, ∃ r, i < len → FitR es1 r ∧ ∃ cs', w.cells? 0 (a.add (i * es1.length)) es1.length = some cs' ∧ RepL w r cs' := fun i => by
              by_cases hi : i < len
              · obtain ⟨cs', h1, h2⟩ := hx i (by omega)
                obtain ⟨r, f1, p1⟩ := sh_open n e q es1 cs' _ he h2
                rw [hc1] at h1
                exact ⟨r, fun _ => ⟨f1, cs', h1, p1⟩⟩
              · exact ⟨[], fun h => absurd h hi⟩
            obtain ⟨R, hR⟩ : ∃ R : Nat → List AV, ∀ i, i < len → FitR es1 (R i) ∧ ∃ cs', w.cells? 0 (a.add (i * es1.length)) es1.length = some cs' ∧ RepL w (R i) cs' := ⟨fun i => Classical.choose (hrow i), fun i hi => Classical.choose_spec (hrow i) hi⟩
            have hmem : ∀ r ∈ (List.range len).map R, ∃ i, i < len ∧ r = R i := fun r hr => by
              obtain ⟨i, hi, rfl⟩ := List.mem_map.1 hr
              exact ⟨i, List.mem_range.1 hi, rfl⟩
            have hlen : ((List.range len).map R).length = len := by simp
            refine ⟨[.list ((List.range len).map R)], FitR.one (.list _ _ (by simp; omega) (fun r hr => ?_) (fun r hr => ?_)), RepL.one ?_⟩
            · obtain ⟨i, hi, rfl⟩ := hmem r hr
              exact (hR i hi).1.1
            · obtain ⟨i, hi, rfl⟩ := hmem r hr
              exact (hR i hi).1.2
            · by_cases hz : len = 0
              · subst hz; exact .lnil _ _
              · have hcell : ∀ (i j : Nat) (x : AV), cellAt ((List.range len).map R) i j = some x → i < len ∧ j < es1.length ∧ (∃ u, w.cell? (a.add (i * es1.length + j)) = some u ∧ RepV ⟨fun _ => none, [], w⟩ x u) ∧ x.clean 0 = true := fun i j x hxx => by
                  simp only [cellAt, Option.bind_eq_some_iff, List.getElem?_map, Option.map_eq_some_iff] at hxx
                  obtain ⟨r, ⟨i', hi', rfl⟩, hj⟩ := hxx
                  obtain ⟨hi2, rfl⟩ : i < len ∧ i = i' := by
                    rw [List.getElem?_eq_some_iff] at hi'
                    obtain ⟨h1, h2⟩ := hi'
                    simp at h1 h2
                    exact ⟨h1, h2⟩
                  obtain ⟨f1, cs', h1, p1⟩ := hR i hi2
                  obtain ⟨_, hcl, hce⟩ := World.cells?_some h1
                  have hj1 : j < (R i).length := (List.getElem?_eq_some_iff.1 hj).1
                  have hj2 : j < es1.length := by rw [← f1.1]; exact hj1
                  have hj3 : cs'[j]? = some cs'[j] := List.getElem?_eq_getElem (by omega)
                  refine ⟨hi2, hj2, ⟨cs'[j], ?_, p1.2 j x _ hj hj3⟩, (f1.2 j _ x (List.getElem?_eq_getElem hj2) hj).clean⟩
                  have := hce j hj2
                  rw [hj3, Go.Deep.add_add] at this
                  exact this
                have ha : a.spot = none := by
                  obtain ⟨f1, cs', h1, p1⟩ := hR 0 (by omega)
                  obtain ⟨_, hcl, hce⟩ := World.cells?_some h1
                  have := hce 0 hc2
                  rw [List.getElem?_eq_getElem (by omega)] at this
                  have := World.cell?_spot' this
                  simpa [Addr.add] using this
                obtain ⟨b, o, sp⟩ := a
                simp only at ha
                subst ha
                have e0 : ∀ k, (⟨b, o, none⟩ : Addr).add k = ⟨b, o + k, none⟩ := fun k => by
                  unfold Addr.add
                  split
                  · rename_i h0; subst h0; rfl
                  · rfl
                have := RepV.list (c := ⟨fun _ => none, [], w⟩) es1.length ((List.range len).map R) b o cap (fun i j => (w.cell? ⟨b, o + (i * es1.length + j), none⟩).getD undef) hc2 (by intro h0; rw [h0] at hlen; simp at hlen; omega)
                  (fun r hr => by obtain ⟨i, hi, rfl⟩ := hmem r hr; exact (hR i hi).1.1) (by omega) (by omega) (fun ⟨_, _, h1, _⟩ => by simp at h1)
                  (fun i j x hx1 => (hcell i j x hx1).2.2.2)
                  (fun i j x hx1 => by
                    obtain ⟨_, _, ⟨u, h1, _⟩, _⟩ := hcell i j x hx1
                    rw [e0] at h1
                    simp [h1])
                  (fun i j x hx1 => by
                    obtain ⟨_, _, ⟨u, h1, h2⟩, _⟩ := hcell i j x hx1
                    rw [e0] at h1
                    simpa [h1] using h2)
                rw [hlen] at this
                exact this
        · simp at hs
      · simp at hs
    · rename_i k e hu
      split at hs
      · rename_i es1 he
        split at hs
        · rename_i hc
          simp only [Option.some.injEq] at hs
          subst hs
          obtain ⟨xs, q, rfl, _, hl, hxl, hx⟩ := DataW.trod_array hu h
          have := arr_open (es := es1) (m := q) (cs := cs) (sz := P.cellsOf e) hc.1 (fun cs y hy => sh_open n e q es1 cs y he hy) k 0 (by rw [hl, hc.2, hc.1]; simp) (fun i _ hi => ⟨xs[i]'(by omega), by rw [hx i (by omega), List.getElem?_eq_getElem]⟩)
          simpa using this
        · simp at hs
      · simp at hs
    · rename_i fs hu
      split at hs
      · rename_i es1 he
        split at hs
        · rename_i hc
          simp only [Option.some.injEq] at hs
          subst hs
          obtain ⟨xs, q, rfl, _, hl, hxl, hx⟩ := DataW.trod_struct hu h
          have := fields_open (cs := cs) (m := q) (fun t es cs y h1 h2 => sh_open n t q es cs y h1 h2) fs.toList 0 es1 he (by rw [hl, hc]; simp) (fun f hf => by
            obtain ⟨i, hi, rfl⟩ := Array.getElem_of_mem (by simpa using hf)
            exact ⟨xs[i]'(by omega), by rw [hx i _ (by simp [hi]), List.getElem?_eq_getElem]⟩)
          simpa using this
        · simp at hs
      · simp at hs
    · simp at hs
inductive ASh where
  | one (e : Sh)
  | agg (es : List Sh)
def isAgg (P : Program) (t : TypeId) : Bool := match P.underlying t with | some (.struct _) | some (.array _ _) => true | _ => false
def argSh (P : Program) (t : TypeId) : Option ASh := match shapes P 20 t, isAgg P t with
  | some es, true => some (.agg es)
  | some [e], false => some (.one e)
  | _, _ => none
def argShs (P : Program) : List TypeId → Option (List ASh)
  | [] => some []
  | t :: ts => (argSh P t).bind fun a => (argShs P ts).map fun l => a :: l
def FitA : ASh → AV → Prop
  | .one e, a => Fit e a
  | .agg es, a => ∃ r, a = .agg r ∧ FitR es r
def FitAs : List ASh → List AV → Prop
  | [], avs => avs = []
  | e :: es, avs => ∃ a r, avs = a :: r ∧ FitA e a ∧ FitAs es r
theorem cell_okWide_one {P : Program} {W : World} {base : Nat} {t : TypeId} {v : Value} {es : List Sh} (hu : ∀ fs, P.underlying t ≠ some (.struct fs)) (hu' : ∀ k e, P.underlying t ≠ some (.array k e)) {n : Nat} (hs : shapes P (n + 1) t = some es) (hv : Value.okWide P W .any base t v) : v.cells = #[v] := by
  simp only [shapes] at hs
  split at hs
  · rename_i h; obtain ⟨n, rfl⟩ := Go.WideShapes.okWide_int h hv; rfl
  · rename_i h; obtain ⟨n, rfl⟩ := Go.WideShapes.okWide_bool h hv; rfl
  · rename_i h; obtain ⟨n, rfl⟩ := Go.WideShapes.okWide_string h hv; rfl
  · rename_i h; obtain ⟨n, _, _, rfl⟩ := Go.WideShapes.okWide_slice h hv; rfl
  · rename_i h; exact absurd h (hu' _ _)
  · rename_i h; exact absurd h (hu _)
  · simp at hs
theorem arg_open {base : Nat} {W : World} {t : TypeId} {v : Value} {d : DataW H} {ps : List MemPlace} {es : ASh} (hs : argSh P t = some es) (hv : Value.okWide P W .any base t v) (h : DataW.Trod enc P W 0 spare held t v d ps) :
    ∃ a, FitA es a ∧ RepV ⟨fun _ => none, [], W⟩ a v := by
  obtain ⟨fuel, h⟩ := h
  unfold argSh at hs
  split at hs
  · rename_i es1 hs1 hagg
    simp only [Option.some.injEq] at hs
    subst hs
    obtain ⟨r, f1, p1⟩ := sh_open 20 t fuel _ _ _ hs1 h
    refine ⟨.agg r, ⟨r, rfl, f1⟩, ?_⟩
    obtain ⟨cs, rfl⟩ : ∃ cs, v = .agg cs := by
      unfold isAgg at hagg
      unfold Value.okWide at hv
      split at hagg
      · rename_i hf; rw [hf] at hv; obtain ⟨cs, h1, _⟩ := hv; exact ⟨cs, h1⟩
      · rename_i hf; rw [hf] at hv; obtain ⟨cs, h1, _⟩ := hv; exact ⟨cs, h1⟩
      · simp at hagg
    refine .agg r cs (by rw [p1.1]; simp [Value.cells]) fun i a ha => ?_
    have hi : i < cs.size := by
      have := (List.getElem?_eq_some_iff.1 ha).1
      rw [p1.1] at this
      simpa [Value.cells] using this
    have := p1.2 i a cs[i] ha (by simp [Value.cells, hi])
    simpa [hi] using this
  · rename_i e hs1 hagg
    simp only [Option.some.injEq] at hs
    subst hs
    obtain ⟨r, f1, p1⟩ := sh_open 20 t fuel _ _ _ hs1 h
    have h1 : ∀ fs, P.underlying t ≠ some (.struct fs) := fun fs h => by simp [isAgg, h] at hagg
    have h2 : ∀ k e, P.underlying t ≠ some (.array k e) := fun k e h => by simp [isAgg, h] at hagg
    have hc := cell_okWide_one (n := 19) h1 h2 hs1 hv
    rw [hc] at p1
    have hl := p1.1
    simp at hl
    obtain ⟨a, rfl⟩ := List.length_eq_one_iff.1 hl
    exact ⟨a, f1.2 0 _ _ rfl rfl, p1.2 0 a v rfl rfl⟩
  · simp at hs
theorem args_open {base : Nat} {W : World} : ∀ (ts : List TypeId) (vs : List Value) (ds : List (DataW H)) (ps : List MemPlace) (L : List ASh), argShs P ts = some L → (∀ (j : Nat) t v, ts[j]? = some t → vs[j]? = some v → Value.okWide P W .any base t v) →
    DataW.TrodAll enc P W 0 spare held ts vs ds ps → ∃ avs, FitAs L avs ∧ avs.length = vs.length ∧ ∀ (i : Nat) (a : AV) (v : Value), avs[i]? = some a → vs[i]? = some v → RepV ⟨fun _ => none, [], W⟩ a v
  | [], vs, ds, ps, L, hs, hv, h => by
    simp only [argShs, Option.some.injEq] at hs
    subst hs
    cases vs with
    | nil => exact ⟨[], rfl, rfl, fun i a v h => by simp at h⟩
    | cons v vs => simp [DataW.TrodAll] at h
  | t :: ts, vs, ds, ps, L, hs, hv, h => by
    simp only [argShs, Option.bind_eq_some_iff, Option.map_eq_some_iff] at hs
    obtain ⟨es, hs1, L2, hs2, rfl⟩ := hs
    cases vs with
    | nil => simp [DataW.TrodAll] at h
    | cons v vs =>
      cases ds with
      | nil => simp [DataW.TrodAll] at h
      | cons d ds =>
        obtain ⟨p, q, h1, h2, _⟩ := h
        obtain ⟨a, f1, r1⟩ := arg_open hs1 (hv 0 t v rfl rfl) h1
        obtain ⟨avs, f2, l2, r2⟩ := args_open ts vs ds q L2 hs2 (fun j t v h1 h2 => hv (j + 1) t v h1 h2) h2
        refine ⟨a :: avs, ⟨a, avs, rfl, f1, f2⟩, by simp [l2], fun i x u hx hu => ?_⟩
        cases i with
        | zero => simp at hx hu; subst hx; subst hu; exact r1
        | succ i => exact r2 i x u (by simpa using hx) (by simpa using hu)
theorem trodAll_stays {W W' : World} (hl : laidOutB P = true) (hb : Below W.heap.size W W') : ∀ (ts : List TypeId) (vs : List Value) (ds : List (DataW H)) (ps : List MemPlace), ts.all (fun t => P.readableRec t && decide (t < P.types.size)) = true → (∀ x ∈ ps, x.block < W.heap.size) →
    DataW.TrodAll enc P W 0 (fun _ => true) true ts vs ds ps → DataW.TrodAll enc P W' 0 (fun b => decide (b < W.heap.size)) true ts vs ds ps
  | [], vs, ds, ps, hr, hlt, h => by
    cases vs <;> cases ds <;> simp [DataW.TrodAll] at h ⊢
    exact h
  | t :: ts, vs, ds, ps, hr, hlt, h => by
    cases vs with
    | nil => simp [DataW.TrodAll] at h
    | cons v vs =>
      cases ds with
      | nil => simp [DataW.TrodAll] at h
      | cons d ds =>
        obtain ⟨p, q, h1, h2, rfl⟩ := h
        simp only [List.all_cons, Bool.and_eq_true, decide_eq_true_eq] at hr
        exact ⟨p, q, Below.trod hl hr.1.1 hr.1.2 h1 hb (fun x hx => hlt x (by simp [hx])), trodAll_stays hl hb ts vs ds q hr.2 (fun x hx => hlt x (by simp [hx])) h2, rfl⟩
theorem TrodAll_len {W : World} {sp : Nat → Bool} {hd : Bool} : ∀ (ts : List TypeId) (vs : List Value) (ds : List (DataW H)) (ps : List MemPlace), DataW.TrodAll enc P W 0 sp hd ts vs ds ps → ds.length = ts.length
  | [], vs, ds, ps, h => by cases vs <;> cases ds <;> simp [DataW.TrodAll] at h ⊢
  | t :: ts, vs, ds, ps, h => by
    cases vs with
    | nil => simp [DataW.TrodAll] at h
    | cons v vs =>
      cases ds with
      | nil => simp [DataW.TrodAll] at h
      | cons d ds =>
        obtain ⟨p, q, h1, h2, _⟩ := h
        simp [TrodAll_len ts vs ds q h2]
theorem Fr.below {ι ι' : Nat → Option Nat} {H' : List AObj} {W W' : World} (h : Fr ⟨ι, [], W⟩ ⟨ι', H', W'⟩) : Below W.heap.size W W' :=
  ⟨h.os, h.tape, h.output, h.size, fun k hk => (h.keep k hk (fun ⟨_, _, h1, _⟩ => by simp at h1)).1⟩
def boolRes (P : Program) (fn : Func) : Bool := match fn.resultTypes.toList with
  | [t] => match P.underlying t with | some .bool => true | _ => false
  | _ => false
theorem law_contract {f : FuncId} {fn : Func} {s : ChangeSpec} {L : List ASh} {W : World} {base : Nat} {args : Array Value} {ds gs : List (DataW H)} {before : List MemPlace}
    (hlaid : laidOutB P = true) (hvars : s.vars = []) (hres : boolRes P fn = true)
    (hread : fn.params.toList.all (fun t => P.readableRec t && decide (t < P.types.size)) = true) (hsh : argShs P fn.params.toList = some L)
    (hs : ∀ ds : List (DataW H), ds.length = fn.params.size → s.fn H ds = { results := [.lit (.bool true)], args := ds })
    (hglob : GlobOk ⟨fun _ => none, [], W⟩)
    (law : ∀ avs, FitAs L avs → ACalls P f avs [] fun r _ => r = .bool true)
    (hval : ∀ (j : Nat) t v, fn.params[j]? = some t → args[j]? = some v → Value.okWide P W .any base t v)
    (hW : DataW.Whole enc P fn.params.toList s.vars false W args.toList ds gs before) :
    Calls P f args W fun e W' => ∃ v, e = .returned v ∧ s.post enc P fn false true false false W args v W' := by
  have hW' := hW
  obtain ⟨tb, hrt, htb⟩ : ∃ tb, fn.resultTypes.toList = [tb] ∧ P.underlying tb = some .bool := by
    unfold boolRes at hres
    split at hres
    · rename_i t ht
      split at hres
      · rename_i hb; exact ⟨t, ht, hb⟩
      · simp at hres
    · simp at hres
  have hsz : fn.resultTypes.size = 1 := by rw [← Array.length_toList, hrt]; rfl
  obtain ⟨p, q, hA, hV, rfl, _, _⟩ := hW
  rw [hvars] at hV
  obtain ⟨rfl, rfl⟩ := Go.ChangeShapes.trodVars_none hV
  obtain ⟨avs, hfit, hlen, hrep⟩ := args_open (base := base) fn.params.toList args.toList ds p L hsh (fun j t v h1 h2 => hval j t v (by simpa using h1) (by simpa using h2)) hA
  have hlt : ∀ y ∈ p, y.block < W.heap.size := fun y hy => by simpa using hW'.lt y (by simp [hy])
  have hdl := TrodAll_len _ _ _ _ hA
  refine ((law avs hfit).2 (fun _ => none) W args ⟨fun k o h => by simp at h, fun k o b h => by simp at h, fun k l o p b h => by simp at h, hglob⟩ ⟨by simpa using hlen.symm, fun i a ha => ?_⟩).mono fun e W' ⟨r, v, ι', H', he, hr, _, hv, hf⟩ => ?_
  · have hi : i < args.size := by
      have := (List.getElem?_eq_some_iff.1 ha).1
      rw [hlen] at this
      simpa using this
    have := hrep i a args[i] ha (by simp [hi])
    simpa [hi] using this
  · subst hr
    have hvb := hv.bool_inv
    subst hvb
    refine ⟨_, he, ds, [], p ++ [], [], p, [], hW', ?_, ?_, ?_, (Fr.below hf).frame _, fun h => by cases h⟩
    · rw [hs _ (by simpa using hdl), hrt, hsz]
      exact Go.ChangeShapes.trodAll_mk1 (shut_bool htb true)
    · rw [hs _ (by simpa using hdl), List.append_nil]
      exact trodAll_stays hlaid (Fr.below hf) _ _ _ _ hread hlt hA
    · rw [hs _ (by simpa using hdl), hvars]
      rfl
end
end Go.Proofs.YtphmakopjfbmnaaDoor
namespace Go.Proofs.YtphmakopjfbmnaaDoor
open Go.ChangeShapes Go.WideShapes Go.ChangeAt Go.RowKit
set_option linter.unusedVariables false
set_option linter.unusedSimpArgs false
set_option maxRecDepth 100000
theorem own_ok : ownKnob Tryd.prog.godebug = none := by kernel_rfl
theorem laid_ok : laidOutB Tryd.prog = true := by kernel_rfl
def laidL {H : Type} : List (String × DataW H) := [("joinery/ins.shapes", Rows.laid_joinery_ins_shapes)]
theorem door_met (os : Os) (args : Array Value) : laidMetH Tryd.prog laidL ((World.doorLaid Tryd.prog 400 os).forCall (fun _ _ => 0) ⟨#[], args, []⟩).memory :=
  laidMetH_of_parts3 (fuel := 8) (laidMet_of_run' 8 (by kernel_rfl) (by kernel_rfl)) (by kernel_rfl) (by kernel_rfl)
theorem gShapes : Tryd.prog.globalNamed "joinery/ins.shapes" = some 0 := by kernel_rfl
noncomputable def tblT : TypeId := ((Tryd.prog.globals[0]?).map (·.type)).getD 0
theorem tShapes : (Tryd.prog.globals[0]?).map (·.type) = some tblT := by kernel_rfl
noncomputable def elT : TypeId := match Tryd.prog.underlying tblT with | some (.array _ e) => e | _ => 0
theorem uTbl : Tryd.prog.underlying tblT = some (.array 18 elT) := by kernel_rfl
noncomputable def elF : Array Field := match Tryd.prog.underlying elT with | some (.struct fs) => fs | _ => #[]
theorem uEl : Tryd.prog.underlying elT = some (.struct #[elF.getD 0 default, elF.getD 1 default]) := by kernel_rfl
theorem uF0 : Tryd.prog.underlying (elF.getD 0 default).type = some .string := by kernel_rfl
theorem uF1 : Tryd.prog.underlying (elF.getD 1 default).type = some .string := by kernel_rfl
theorem oF0 : (elF.getD 0 default).offset = 0 := by kernel_rfl
theorem oF1 : (elF.getD 1 default).offset = 1 := by kernel_rfl
theorem cF0 : Tryd.prog.cellsOf (elF.getD 0 default).type = 1 := by kernel_rfl
theorem cF1 : Tryd.prog.cellsOf (elF.getD 1 default).type = 1 := by kernel_rfl
theorem cEl : Tryd.prog.cellsOf elT = 2 := by kernel_rfl
theorem laid_eq {H : Type} : (Rows.laid_joinery_ins_shapes : DataW H) = .agg (shapeTbl.map fun p => .agg [.lit (.string p.1.data.toList), .lit (.string p.2.data.toList)]) := rfl
theorem glob_of_laid {W : World} (h : laidMetH Tryd.prog laidL W) : GlobOk ⟨fun _ => none, [], W⟩ := by
  unfold laidL at h
  rw [MakeChecks.laidMetH_plain _ _ _ (by kernel_rfl)] at h
  obtain ⟨ps, ⟨g0, t0, cs0, f0, p0, q0, hg0, ht0, hv0, hd0, _⟩, _⟩ := h
  obtain rfl := Option.some.inj (gShapes.symm.trans hg0)
  obtain rfl := Option.some.inj (tShapes.symm.trans ht0)
  obtain ⟨xs, m, rfl, hx, hlen, hn, hel⟩ := DataW.trod_array uTbl hd0
  rw [laid_eq] at hx
  simp only [Prod.mk.injEq, DataW.agg.injEq] at hx
  have hx1 := hx.1
  clear hx hd0
  have hcell : ∀ j, W.cell? ⟨0, j, none⟩ = cs0.toList[j]? := fun j => by
    have := World.var?_cell gShapes hv0 j
    simpa using this
  have key : ∀ i : Nat, i < 18 → cs0.toList[i * 2]? = some (.string (bs (wordL ((i + 1 : Nat) : Int)))) ∧ cs0.toList[i * 2 + 1]? = some (.string (bs (fieldL ((i + 1 : Nat) : Int)))) := fun i hi => by
    have h1 := hel i hi
    rw [List.getElem?_eq_getElem (by omega)] at h1
    obtain ⟨y0, y1, n, e1, _, h2, h3⟩ := trod_struct2 uEl h1
    rw [cEl, oF0, cF0] at h2
    rw [cEl, oF1, cF1] at h3
    obtain ⟨s0, g1, g2, _⟩ := DataW.trod_string uF0 h2
    obtain ⟨s1, g3, g4, _⟩ := DataW.trod_string uF1 h3
    have e2 : (xs.map (·.1))[i]? = some xs[i].1 := by rw [List.getElem?_map, List.getElem?_eq_getElem (by omega)]; rfl
    rw [← hx1, e1, List.getElem?_map, List.getElem?_eq_getElem (by exact hi)] at e2
    simp only [Option.map_some, Option.some.injEq, DataW.agg.injEq, List.cons.injEq, and_true, g2, g4, DataW.lit.injEq, Lit.string.injEq] at e2
    have hw : wordL ((i + 1 : Nat) : Int) = (shapeTbl[i]'hi).1.data.toList := by
      unfold wordL shapeOf
      rw [show (((i + 1 : Nat) : Int) - 1).toNat = i by omega, List.getD_eq_getElem?_getD, List.getElem?_eq_getElem (by exact hi)]
      rfl
    have hf : fieldL ((i + 1 : Nat) : Int) = (shapeTbl[i]'hi).2.data.toList := by
      unfold fieldL shapeOf
      rw [show (((i + 1 : Nat) : Int) - 1).toNat = i by omega, List.getD_eq_getElem?_getD, List.getElem?_eq_getElem (by exact hi)]
      rfl
    have k0 : s0 = bs (wordL ((i + 1 : Nat) : Int)) := by rw [hw, e2.1]; exact bs_of s0
    have k1 : s1 = bs (fieldL ((i + 1 : Nat) : Int)) := by rw [hf, e2.2]; exact bs_of s1
    rw [← k0, ← k1]
    have f0 := congrArg (fun l => l[0]?) g1
    have f1 := congrArg (fun l => l[0]?) g3
    simp at f0 f1
    exact ⟨by simpa using f0, by simpa using f1⟩
  obtain ⟨row, hr, hl, -, hcr, hd⟩ := shape_tbl
  intro g row' hg
  have hrow : row' = row := by
    unfold GT at hg
    split at hg
    · simp only [Option.some.injEq] at hg
      rw [← hg, hr]
    · simp at hg
  have hg0' : g = 0 := by
    unfold GT at hg
    split at hg
    · assumption
    · simp at hg
  subst hrow hg0'
  refine ⟨fun h => by rw [h] at hl; simp at hl, fun ⟨_, _, h1, _⟩ => by simp at h1, fun j a ha => ?_⟩
  have hj : j < 36 := by rw [← hl]; exact (List.getElem?_eq_some_iff.1 ha).1
  obtain ⟨i, hi⟩ : ∃ i, j = i * 2 ∨ j = i * 2 + 1 := ⟨j / 2, by omega⟩
  have hd := hd i (by omega)
  have hk := key i (by omega)
  rcases hi with rfl | rfl
  · have e1 : row'[i * 2]? = some (.str (bs (wordL ((i + 1 : Nat) : Int)))) := by
      have := congrArg (fun l => l[0]?) hd
      simpa [List.getElem?_take] using this
    rw [e1] at ha
    simp only [Option.some.injEq] at ha
    subst ha
    exact ⟨rfl, _, (hcell _).trans hk.1, .str _⟩
  · have e1 : row'[i * 2 + 1]? = some (.str (bs (fieldL ((i + 1 : Nat) : Int)))) := by
      have := congrArg (fun l => l[1]?) hd
      simpa [List.getElem?_take] using this
    rw [e1] at ha
    simp only [Option.some.injEq] at ha
    subst ha
    exact ⟨rfl, _, (hcell _).trans hk.2, .str _⟩
end Go.Proofs.YtphmakopjfbmnaaDoor
namespace Go.Proofs.YtphmakopjfbmnaaDoor
open Go.ChangeShapes Go.WideShapes Go.ChangeAt Go.RowKit
set_option linter.unusedVariables false
set_option linter.unusedSimpArgs false
abbrev insSh : List Sh := [.int .i64, .int .i64, .int .i64, .int .i64, .int .i64, .int .i64]
theorem Fit.int_inv {k : IntKind} {a : AV} (h : Fit (.int k) a) : ∃ n, a = .int k n ∧ k.min ≤ n ∧ n ≤ k.max := by
  cases h with
  | int k n h0 h1 => exact ⟨n, rfl, h0, h1⟩
theorem Fit.i64 {a : AV} (h : Fit (.int .i64) a) : ∃ n, a = .int .i64 n ∧ in64 n := by
  obtain ⟨n, rfl, h0, h1⟩ := h.int_inv
  exact ⟨n, rfl, h0, h1⟩
theorem Fit.u8 {a : AV} (h : Fit (.int .u8) a) : ∃ n : Nat, a = .int .u8 (n : Int) ∧ n < 256 := by
  obtain ⟨n, rfl, h0, h1⟩ := h.int_inv
  have e0 : IntKind.u8.min = 0 := rfl
  have e1 : IntKind.u8.max = 255 := rfl
  exact ⟨n.toNat, by congr 1; omega, by omega⟩
theorem Fit.str_inv {a : AV} (h : Fit .str a) : ∃ l : List UInt8, a = .str (bs l) ∧ l.length ≤ maxLen := by
  cases h with
  | str s h => exact ⟨s.data.toList, congrArg AV.str (bs_of s), bs_size (l := s.data.toList) ▸ h⟩
theorem fit_ins {r : List AV} (hn : r.length = 6) (h : ∀ (i : Nat) (e : Sh) (a : AV), insSh[i]? = some e → r[i]? = some a → Fit e a) : ∃ x : Ins, r = encIns x ∧ (in64 x.op ∧ in64 x.d ∧ in64 x.a ∧ in64 x.b ∧ in64 x.n ∧ in64 x.to) := by
  match r, hn with
  | [a0, a1, a2, a3, a4, a5], _ =>
    obtain ⟨n0, rfl, g0⟩ := (h 0 _ _ rfl rfl).i64
    obtain ⟨n1, rfl, g1⟩ := (h 1 _ _ rfl rfl).i64
    obtain ⟨n2, rfl, g2⟩ := (h 2 _ _ rfl rfl).i64
    obtain ⟨n3, rfl, g3⟩ := (h 3 _ _ rfl rfl).i64
    obtain ⟨n4, rfl, g4⟩ := (h 4 _ _ rfl rfl).i64
    obtain ⟨n5, rfl, g5⟩ := (h 5 _ _ rfl rfl).i64
    exact ⟨⟨n0, n1, n2, n3, n4, n5⟩, rfl, g0, g1, g2, g3, g4, g5⟩
theorem FitA.ins {a : AV} (h : FitA (.agg insSh) a) : ∃ x : Ins, a = insA x ∧ (in64 x.op ∧ in64 x.d ∧ in64 x.a ∧ in64 x.b ∧ in64 x.n ∧ in64 x.to) := by
  obtain ⟨r, rfl, hr⟩ := h
  obtain ⟨x, rfl, hx⟩ := fit_ins hr.1 hr.2
  exact ⟨x, rfl, hx⟩
theorem Pure.law {P : Program} {f : FuncId} {args : List AV} (h : Pure P f args (.bool true)) : ACalls P f args [] fun r _ => r = .bool true := (h []).mono fun r _ ⟨h, _⟩ => h
end Go.Proofs.YtphmakopjfbmnaaDoor
namespace Go.Proofs.YtphmakopjfbmnaaDoor
open Go.ChangeShapes Go.WideShapes Go.ChangeAt Go.RowKit
set_option linter.unusedVariables false
set_option linter.unusedSimpArgs false
theorem ok_of {x : Ins} (h : in64 x.op ∧ in64 x.d ∧ in64 x.a ∧ in64 x.b ∧ in64 x.n ∧ in64 x.to) : Ok64 x := ⟨h.1, h.2.1, h.2.2.1, h.2.2.2.1, h.2.2.2.2.1, h.2.2.2.2.2⟩
theorem rows_of {α : Type} (f : α → List AV) (q : α → Prop) (p : List AV → Prop) (hp : ∀ r, p r → ∃ x, r = f x ∧ q x) : ∀ rows : List (List AV), (∀ r ∈ rows, p r) → ∃ l : List α, rows = l.map f ∧ ∀ x ∈ l, q x
  | [], _ => ⟨[], rfl, by simp⟩
  | r :: rows, h => by
    obtain ⟨x, rfl, hx⟩ := hp r (h r (by simp))
    obtain ⟨l, rfl, hl⟩ := rows_of f q p hp rows (fun r hr => h r (by simp [hr]))
    exact ⟨x :: l, rfl, by simpa using ⟨hx, hl⟩⟩
theorem Fit.inss {a : AV} (h : Fit (.list insSh) a) : ∃ l : List Ins, a = encFn l ∧ (∀ x ∈ l, Ok64 x) ∧ l.length ≤ maxLen := by
  cases h with
  | list es rows hl hn h =>
    obtain ⟨l, rfl, hq⟩ := rows_of encIns Ok64 (fun r => r.length = 6 ∧ ∀ (i : Nat) (e : Sh) (a : AV), insSh[i]? = some e → r[i]? = some a → Fit e a) (fun r hr => by
      obtain ⟨x, h1, h2⟩ := fit_ins hr.1 hr.2
      exact ⟨x, h1, ok_of h2⟩) rows (fun r hr => ⟨hn r hr, h r hr⟩)
    exact ⟨l, rfl, hq, by simpa using hl⟩
end Go.Proofs.YtphmakopjfbmnaaDoor
namespace Go.Proofs.YtphmakopjfbmnaaDoor
open Go.ChangeShapes Go.WideShapes Go.ChangeAt Go.RowKit
set_option linter.unusedVariables false
set_option linter.unusedSimpArgs false
theorem FitR.cons_inv {e : Sh} {es : List Sh} {r : List AV} (h : FitR (e :: es) r) : ∃ a r', r = a :: r' ∧ Fit e a ∧ FitR es r' := by
  obtain ⟨h1, h2⟩ := h
  cases r with
  | nil => simp at h1
  | cons a r => exact ⟨a, r, rfl, h2 0 e a rfl rfl, by simpa using h1, fun i e' a' he ha => h2 (i + 1) e' a' (by simpa using he) (by simpa using ha)⟩
theorem FitR.nil_inv {r : List AV} (h : FitR [] r) : r = [] := List.length_eq_zero_iff.1 h.1
theorem Fit.bool_inv {a : AV} (h : Fit .bool a) : ∃ b, a = .bool b := by
  cases h with
  | bool b => exact ⟨b, rfl⟩
theorem Fit.ints {a : AV} (h : Fit (.list [.int .i64]) a) : ∃ l : List Int, a = ints l ∧ (∀ n ∈ l, in64 n) ∧ l.length ≤ maxLen := by
  cases h with
  | list es rows hl hn h =>
    obtain ⟨l, rfl, hq⟩ := rows_of encI in64 (fun r => FitR [.int .i64] r) (fun r hr => by
      obtain ⟨a, r', rfl, h1, h2⟩ := hr.cons_inv
      have := h2.nil_inv
      subst this
      obtain ⟨n, rfl, hn⟩ := h1.i64
      exact ⟨n, rfl, hn⟩) rows (fun r hr => ⟨hn r hr, h r hr⟩)
    exact ⟨l, rfl, hq, by simpa using hl⟩
abbrev wSh : List Sh := [.bool, .int .i64]
theorem fit_words {rest : List Sh} : ∀ (n : Nat) (r : List AV), FitR ((List.replicate n wSh).flatten ++ rest) r → ∃ (L : List W) (r' : List AV), r = wc L ++ r' ∧ L.length = n ∧ (∀ w ∈ L, in64 w.v) ∧ FitR rest r'
  | 0, r, h => ⟨[], r, rfl, rfl, by simp, by simpa using h⟩
  | n + 1, r, h => by
    have e : (List.replicate (n + 1) wSh).flatten ++ rest = .bool :: .int .i64 :: ((List.replicate n wSh).flatten ++ rest) := by rw [List.replicate_succ]; rfl
    rw [e] at h
    obtain ⟨a, r1, rfl, h1, h2⟩ := h.cons_inv
    obtain ⟨b, r2, rfl, h3, h4⟩ := h2.cons_inv
    obtain ⟨x, rfl⟩ := h1.bool_inv
    obtain ⟨v, rfl, hv⟩ := h3.i64
    obtain ⟨L, r', rfl, h5, h6, h7⟩ := fit_words n r2 h4
    exact ⟨⟨x, v⟩ :: L, r', rfl, by simp [h5], by simpa using ⟨hv, h6⟩, h7⟩
abbrev stSh : List Sh := (List.replicate 24 wSh).flatten ++ [.list [.int .i64], .int .i64, .int .i64]
theorem FitA.st {a : AV} (h : FitA (.agg stSh) a) : ∃ s : St, a = stA s ∧ s.L.length = 24 ∧ (∀ w ∈ s.L, in64 w.v) ∧ s.heap.length ≤ maxLen ∧ (∀ n ∈ s.heap, in64 n) ∧ in64 s.pc ∧ in64 s.asked := by
  obtain ⟨r, rfl, hr⟩ := h
  obtain ⟨L, r1, rfl, h1, h2, h3⟩ := fit_words 24 r hr
  obtain ⟨a, r2, rfl, g1, g2⟩ := h3.cons_inv
  obtain ⟨b, r3, rfl, g3, g4⟩ := g2.cons_inv
  obtain ⟨c, r4, rfl, g5, g6⟩ := g4.cons_inv
  have := g6.nil_inv
  subst this
  obtain ⟨hp, rfl, k1, k2⟩ := g1.ints
  obtain ⟨pc, rfl, k3⟩ := g3.i64
  obtain ⟨as', rfl, k4⟩ := g5.i64
  exact ⟨⟨L, hp, pc, as'⟩, rfl, h1, h2, k2, k1, k3, k4⟩
end Go.Proofs.YtphmakopjfbmnaaDoor
namespace Go.Proofs.YtphmakopjfbmnaaDoor
open Go.ChangeShapes Go.WideShapes Go.ChangeAt Go.RowKit
set_option linter.unusedVariables false
set_option linter.unusedSimpArgs false
theorem fit_nums {rest : List Sh} : ∀ (n : Nat) (r : List AV), FitR (List.replicate n (.int .i64) ++ rest) r → ∃ (R : List Int) (r' : List AV), r = ic R ++ r' ∧ R.length = n ∧ (∀ x ∈ R, in64 x) ∧ FitR rest r'
  | 0, r, h => ⟨[], r, rfl, rfl, by simp, by simpa using h⟩
  | n + 1, r, h => by
    have e : List.replicate (n + 1) (Sh.int .i64) ++ rest = .int .i64 :: (List.replicate n (.int .i64) ++ rest) := by rw [List.replicate_succ]; rfl
    rw [e] at h
    obtain ⟨a, r1, rfl, h1, h2⟩ := h.cons_inv
    obtain ⟨v, rfl, hv⟩ := h1.i64
    obtain ⟨R, r', rfl, h5, h6, h7⟩ := fit_nums n r1 h2
    exact ⟨v :: R, r', rfl, by simp [h5], by simpa using ⟨hv, h6⟩, h7⟩
abbrev csSh : List Sh := List.replicate 8 (.int .i64) ++ [.list [.int .i64], .list [.int .i64], .int .i64]
theorem FitA.cs {a : AV} (h : FitA (.agg csSh) a) : ∃ c : Cs, a = csA c ∧ c.R.length = 8 ∧ c.heap.length ≤ maxLen ∧ c.ans.length ≤ maxLen ∧ in64 c.fuel := by
  obtain ⟨r, rfl, hr⟩ := h
  obtain ⟨R, r1, rfl, h1, h2, h3⟩ := fit_nums 8 r hr
  obtain ⟨a, r2, rfl, g1, g2⟩ := h3.cons_inv
  obtain ⟨b, r3, rfl, g3, g4⟩ := g2.cons_inv
  obtain ⟨c, r4, rfl, g5, g6⟩ := g4.cons_inv
  have := g6.nil_inv
  subst this
  obtain ⟨hp, rfl, k1, k2⟩ := g1.ints
  obtain ⟨an, rfl, k3, k4⟩ := g3.ints
  obtain ⟨fu, rfl, k5⟩ := g5.i64
  exact ⟨⟨R, hp, an, fu⟩, rfl, h1, k2, k4, k5⟩
end Go.Proofs.YtphmakopjfbmnaaDoor
namespace Go.Proofs.YtphmakopjfbmnaaDoor
open Go.RowKit
set_option linter.unusedVariables false
set_option linter.unusedSimpArgs false
theorem onF_stop {f : List Ins} {ans : List Int} {s : St} {t : Tr} (h : ¬ t.out.how = 0) : ∀ n : Nat, onF f ans n s t = (t, s)
  | 0 => rfl
  | n + 1 => by rw [onF, if_neg h]
theorem onF_add (f : List Ins) (ans : List Int) : ∀ (m n : Nat) (s : St) (t : Tr), onF f ans (m + n) s t = onF f ans n (onF f ans m s t).2 (onF f ans m s t).1
  | 0, n, s, t => by rw [Nat.zero_add]; rfl
  | m + 1, n, s, t => by
    by_cases h : t.out.how = 0
    · rw [show m + 1 + n = (m + n) + 1 by omega, onF, if_pos h, onF, if_pos h]
      exact onF_add f ans m n _ _
    · rw [onF_stop h, onF_stop h, onF_stop h]
theorem onF_pre (f : List Ins) (ans : List Int) : ∀ (n : Nat) (s : St) (t : Tr), ∃ l, (onF f ans n s t).1.evs = t.evs ++ l
  | 0, s, t => ⟨[], by rw [List.append_nil]; rfl⟩
  | n + 1, s, t => by
    by_cases h : t.out.how = 0
    · rw [onF, if_pos h]
      obtain ⟨l, hl⟩ := onF_pre f ans n (stepF f s ans).1 (nextT f ans s t)
      exact ⟨(stepF f s ans).2.1 ++ l, by rw [hl, ← List.append_assoc]; rfl⟩
    · rw [onF_stop h]
      exact ⟨[], by rw [List.append_nil]⟩
theorem onF_right {f : List Ins} {ans : List Int} : ∀ (n : Nat) (s : St) (t : Tr), (t.out.how = 0 → stRight f s = true) → (onF f ans n s t).1.out.how = 0 → stRight f (onF f ans n s t).2 = true
  | 0, s, t, hs, h => hs h
  | n + 1, s, t, hs, h => by
    by_cases h0 : t.out.how = 0
    · rw [onF, if_pos h0] at h ⊢
      exact onF_right n _ _ (fun g => stepF_right (hs h0) g) h
    · rw [onF_stop h0] at h
      exact absurd h h0
theorem runF_more {f : List Ins} {R hp an : List Int} {fu : Int} (h : 0 ≤ fu) (m : Nat) : runF f ⟨R, hp, an, fu + (m : Int)⟩ = onF f an m (runF f ⟨R, hp, an, fu⟩).2 (runF f ⟨R, hp, an, fu⟩).1 := by
  show onF f an (fu + (m : Int)).toNat _ _ = onF f an m (onF f an fu.toNat _ _).2 (onF f an fu.toNat _ _).1
  rw [← onF_add, show (fu + (m : Int)).toNat = fu.toNat + m by omega]
  rfl
end Go.Proofs.YtphmakopjfbmnaaDoor
namespace Go.Proofs.YtphmakopjfbmnaaDoor
open Go.RowKit
set_option linter.unusedVariables false
set_option linter.unusedSimpArgs false
theorem stepF_still {f : List Ins} {s : St} {ans : List Int} (h : stRight f s = true) : stRight f (stepF f s ans).1 = true := by
  by_cases h0 : (stepF f s ans).2.2.how = 0
  · exact stepF_right h h0
  · rw [(stepF_ends h0).1]
    exact h
theorem onF_ans (f : List Ins) (ans more : List Int) : ∀ (n : Nat) (s : St) (t : Tr), stRight f s = true → (¬ (onF f ans n s t).1.out.how = 5 → onF f (ans ++ more) n s t = onF f ans n s t) ∧ ∃ l, (onF f (ans ++ more) n s t).1.evs = (onF f ans n s t).1.evs ++ l
  | 0, s, t, hs => ⟨fun _ => rfl, [], by rw [List.append_nil]; rfl⟩
  | n + 1, s, t, hs => by
    by_cases h : t.out.how = 0
    · have e : ∀ a : List Int, onF f a (n + 1) s t = onF f a n (stepF f s a).1 (nextT f a s t) := fun a => by rw [onF, if_pos h]
      by_cases h5 : (stepF f s ans).2.2.how = 5
      · have hne : ¬ (stepF f s ans).2.2.how = 0 := by omega
        have hno : (stepF f s ans).2.1 = [] := (stepF_ends hne).2.1
        have hst : onF f ans (n + 1) s t = (nextT f ans s t, (stepF f s ans).1) := by rw [e]; exact onF_stop hne n
        obtain ⟨l, hl⟩ := onF_pre f (ans ++ more) (n + 1) s t
        refine ⟨fun g => ?_, l, ?_⟩
        · rw [hst] at g
          exact absurd h5 g
        · rw [hl, hst]
          show t.evs ++ l = (t.evs ++ (stepF f s ans).2.1) ++ l
          rw [hno, List.append_nil]
      · have hm : stepF f s (ans ++ more) = stepF f s ans := stepF_more (stRight_iff.1 hs).2.2.2.2.1 h5
        have hn : nextT f (ans ++ more) s t = nextT f ans s t := by unfold nextT; rw [hm]
        rw [e, e, hm, hn]
        exact onF_ans f ans more n _ _ (stepF_still hs)
    · rw [onF_stop h, onF_stop h]
      exact ⟨fun _ => rfl, [], by rw [List.append_nil]⟩
theorem runF_ans {f : List Ins} {R hp an more : List Int} {fu : Int} (hs : stRight f (beginS ⟨R, hp, an, fu⟩) = true) :
    (¬ (runF f ⟨R, hp, an, fu⟩).1.out.how = 5 → runF f ⟨R, hp, an ++ more, fu⟩ = runF f ⟨R, hp, an, fu⟩) ∧ ∃ l, (runF f ⟨R, hp, an ++ more, fu⟩).1.evs = (runF f ⟨R, hp, an, fu⟩).1.evs ++ l :=
  onF_ans f an more fu.toNat (beginS ⟨R, hp, an, fu⟩) tr0 hs
end Go.Proofs.YtphmakopjfbmnaaDoor
namespace Go.Proofs.YtphmakopjfbmnaaDoor
open Go.RowKit
set_option linter.unusedVariables false
set_option linter.unusedSimpArgs false
structure Sd where
  evs : List Ev
  out : Out
  sil : Bool
def begB (a b : List Ev) : Bool := decide (a.length ≤ b.length) && decide (a = b.take a.length)
theorem begB_iff {a b : List Ev} : begB a b = true ↔ a <+: b := by
  unfold begB
  rw [Bool.and_eq_true, decide_eq_true_eq, decide_eq_true_eq, List.prefix_iff_eq_take]
  constructor
  · exact fun h => h.2
  · intro h
    refine ⟨?_, h⟩
    have := congrArg List.length h
    rw [List.length_take] at this
    omega
def haltB (o : Out) : Bool := decide (1 ≤ o.how) && decide (o.how ≤ 4)
def silB (f : List Ins) (r : Tr × St) : Bool := decide (r.1.out.how = 0) && decide (pathTo f (f.length + 1) r.2.pc.toNat = none)
def sdOf (f : List Ins) (r : Tr × St) : Sd := ⟨r.1.evs, r.1.out, silB f r⟩
def sdF (f : List Ins) (c : Cs) : Sd := sdOf f (runF f c)
def tellS (x y : Sd) : Int :=
  if !begB x.evs y.evs && !begB y.evs x.evs then 1
  else if (haltB x.out && !begB y.evs x.evs) || (haltB y.out && !begB x.evs y.evs) then 2
  else if haltB x.out && (haltB y.out && !decide (x.out = y.out)) then 3
  else if (haltB x.out && y.sil) || (haltB y.out && x.sil) then 4 else 0
def tellF (f g : List Ins) (c : Cs) : Int := tellS (sdF f c) (sdF g c)
def SdOk (x : Sd) : Prop := x.sil = true → haltB x.out = false
theorem sdOf_ok (f : List Ins) (r : Tr × St) : SdOk (sdOf f r) := by
  intro h
  have h : silB f r = true := h
  unfold silB at h
  simp only [Bool.and_eq_true, decide_eq_true_eq] at h
  show haltB r.1.out = false
  unfold haltB
  rw [h.1]
  rfl
theorem tellS_comm (x y : Sd) : tellS x y = tellS y x := by
  unfold tellS
  have e : decide (x.out = y.out) = decide (y.out = x.out) := decide_eq_decide.2 ⟨fun h => h.symm, fun h => h.symm⟩
  rw [e]
  cases begB x.evs y.evs <;> cases begB y.evs x.evs <;> cases haltB x.out <;> cases haltB y.out <;> cases decide (y.out = x.out) <;> cases x.sil <;> cases y.sil <;> rfl
theorem begB_refl (a : List Ev) : begB a a = true := begB_iff.2 (List.prefix_refl a)
theorem tellS_self {x : Sd} (h : SdOk x) : tellS x x = 0 := by
  unfold tellS
  rw [begB_refl, decide_eq_true rfl]
  cases hs : x.sil
  · cases haltB x.out <;> rfl
  · rw [h hs]; rfl
structure Grow (x y : Sd) : Prop where
  halt : haltB x.out = true → y = x
  sil : x.sil = true → y.evs = x.evs ∧ y.sil = true
  pre : x.evs <+: y.evs
theorem Grow.refl (x : Sd) : Grow x x := ⟨fun _ => rfl, fun h => ⟨rfl, h⟩, List.prefix_refl _⟩
theorem begB_no {a b : List Ev} : begB a b = false ↔ ¬ a <+: b := by
  rw [← begB_iff]; simp
theorem tell_grow {x x' y y' : Sd} (hx : Grow x x') (hy : Grow y y') (ox : SdOk x) (oy : SdOk y) (ox' : SdOk x') (oy' : SdOk y') (h : tellS x y ≠ 0) : tellS x' y' = tellS x y := by
  have ha : begB x'.evs y'.evs = true → begB x.evs y.evs = true ∨ begB y.evs x.evs = true := fun h => by
    rw [begB_iff] at h
    have h1 := hx.pre.trans h
    rcases List.prefix_or_prefix_of_prefix h1 hy.pre with h2 | h2
    · exact .inl (begB_iff.2 h2)
    · exact .inr (begB_iff.2 h2)
  have hb : begB y'.evs x'.evs = true → begB x.evs y.evs = true ∨ begB y.evs x.evs = true := fun h => by
    rw [begB_iff] at h
    have h1 := hy.pre.trans h
    rcases List.prefix_or_prefix_of_prefix h1 hx.pre with h2 | h2
    · exact .inr (begB_iff.2 h2)
    · exact .inl (begB_iff.2 h2)
  by_cases c1 : (!begB x.evs y.evs && !begB y.evs x.evs) = true
  · have c1' : (!begB x'.evs y'.evs && !begB y'.evs x'.evs) = true := by
      cases e1 : begB x'.evs y'.evs
      · cases e2 : begB y'.evs x'.evs
        · rfl
        · rcases hb e2 with h2 | h2 <;> rw [h2] at c1 <;> simp at c1
      · rcases ha e1 with h2 | h2 <;> rw [h2] at c1 <;> simp at c1
    unfold tellS
    rw [if_pos c1, if_pos c1']
  -- one side has halted
  have one : ∀ x x' y y' : Sd, Grow x x' → Grow y y' → SdOk y → SdOk y' → haltB x.out = true → (!begB x.evs y.evs && !begB y.evs x.evs) = false → tellS x y ≠ 0 → (haltB y.out = true → begB x.evs y.evs = true) → tellS x' y' = tellS x y := by
    intro x x' y y' hx hy oy oy' hh c1 h hsym
    have e := hx.halt hh
    subst e
    by_cases hhy : haltB y.out = true
    · have e := hy.halt hhy
      subst e
      rfl
    · replace hhy : haltB y.out = false := by simpa using hhy
      by_cases b : begB y.evs x'.evs = true
      · -- silent
        have hs : y.sil = true := by
          cases hs : y.sil
          · exfalso
            apply h
            unfold tellS
            rw [c1, hhy, b, hs]
            cases haltB x'.out <;> rfl
          · rfl
        obtain ⟨g1, g2⟩ := hy.sil hs
        unfold tellS
        rw [g1, g2, hs, oy hs, oy' g2]
        cases begB x'.evs y.evs <;> cases begB y.evs x'.evs <;> cases haltB x'.out <;> rfl
      · replace b : begB y.evs x'.evs = false := by simpa using b
        have a : begB x'.evs y.evs = true := by
          cases a : begB x'.evs y.evs
          · rw [a, b] at c1; simp at c1
          · rfl
        have a' : begB x'.evs y'.evs = true := begB_iff.2 ((begB_iff.1 a).trans hy.pre)
        have b' : begB y'.evs x'.evs = false := by
          rw [begB_no]
          intro h2
          exact (begB_no.1 b) (hy.pre.trans h2)
        unfold tellS
        rw [a, a', b, b', hh]
        cases haltB y.out <;> cases haltB y'.out <;> rfl
  replace c1 : (!begB x.evs y.evs && !begB y.evs x.evs) = false := by simpa using c1
  cases hhx : haltB x.out
  · cases hhy : haltB y.out
    · exfalso
      apply h
      unfold tellS
      rw [c1, hhx, hhy]
      rfl
    · rw [tellS_comm x' y', tellS_comm x y]
      exact one y y' x x' hy hx ox ox' hhy (by rw [Bool.and_comm]; exact c1) (by rw [tellS_comm]; exact h) (fun g => by rw [hhx] at g; cases g)
  · by_cases hhy : haltB y.out = true
    · rw [hx.halt hhx, hy.halt hhy]
    · exact one x x' y y' hx hy oy oy' hhx c1 h (fun g => absurd g hhy)
theorem stepF_pc {f : List Ins} {s : St} {ask : List Int} (hs : stRight f s = true) (hm : movesAt f s.pc.toNat = true) : (stepF f s ask).1.pc.toNat = nextPc f s.pc.toNat := by
  obtain ⟨k1, k2, k3, k4, k5, k6⟩ := stRight_iff.1 hs
  unfold movesAt at hm
  unfold nextPc
  have ho : (f.getD s.pc.toNat noIns).op = 1 ∨ (f.getD s.pc.toNat noIns).op = 2 ∨ (f.getD s.pc.toNat noIns).op = 3 ∨ (f.getD s.pc.toNat noIns).op = 16 := by simpa [movesB] using hm
  unfold stepF
  generalize f.getD s.pc.toNat noIns = x at *
  have hu : usesR x = [] := by
    unfold usesR
    rw [if_neg (by omega), if_neg (by omega)]
  rw [hu]
  simp only [List.all_nil, if_true]
  unfold stepW
  simp only
  rw [if_neg (by omega), if_neg (by omega), if_neg (by omega), if_neg (by omega), if_neg (by omega)]
  by_cases h16 : x.op = 16
  · rw [if_pos h16, if_pos h16]
  · rw [if_neg h16, if_neg h16, if_pos (by omega)]
    show (s.pc + 1).toNat = s.pc.toNat + 1
    omega
theorem sil_on {f : List Ins} {ans : List Int} : ∀ (m : Nat) (s : St) (t : Tr), stRight f s = true → t.out.how = 0 → pathTo f (f.length + 1) s.pc.toNat = none →
    (onF f ans m s t).1.evs = t.evs ∧ (onF f ans m s t).1.out.how = 0 ∧ pathTo f (f.length + 1) (onF f ans m s t).2.pc.toNat = none
  | 0, s, t, _, h1, h2 => ⟨rfl, h1, h2⟩
  | m + 1, s, t, hs, h1, h2 => by
    obtain ⟨k1, k2, k3, k4, k5, k6⟩ := stRight_iff.1 hs
    obtain ⟨g1, g2, g3⟩ := path_next k1 (show s.pc.toNat < f.length by omega) h2
    obtain ⟨q1, q2, q3, q4⟩ := stepF_moves (ask := ans) (show movesB (f.getD s.pc.toNat noIns).op = true from g1)
    have hs' := stepF_right (ask := ans) hs q4
    have hp : (stepF f s ans).1.pc.toNat = nextPc f s.pc.toNat := stepF_pc hs g1
    rw [onF, if_pos h1]
    have := sil_on (ans := ans) m (stepF f s ans).1 (nextT f ans s t) hs' q4 (by rw [hp]; exact g3)
    obtain ⟨r1, r2, r3⟩ := this
    refine ⟨?_, r2, r3⟩
    rw [r1]
    show t.evs ++ (stepF f s ans).2.1 = t.evs
    rw [q3, List.append_nil]
theorem grow_fuel {f : List Ins} {R hp an : List Int} {fu : Int} (hf : fnOk f = true) (hc : csRight ⟨R, hp, an, fu⟩ = true) (m : Nat) : Grow (sdF f ⟨R, hp, an, fu⟩) (sdF f ⟨R, hp, an, fu + (m : Int)⟩) := by
  have h0 : 0 ≤ fu := by
    unfold csRight at hc
    simp only [Bool.and_eq_true, decide_eq_true_eq] at hc
    exact hc.2.2.1
  have hb := beginS_right hf hc (fnOk_iff.1 hf).2.1
  unfold sdF
  rw [runF_more h0 m]
  have hr : (runF f ⟨R, hp, an, fu⟩).1.out.how = 0 → stRight f (runF f ⟨R, hp, an, fu⟩).2 = true := fun h => onF_right _ _ _ (fun _ => hb) h
  generalize runF f ⟨R, hp, an, fu⟩ = r at *
  obtain ⟨t, s⟩ := r
  refine ⟨fun h => ?_, fun h => ?_, ?_⟩
  · have h : haltB t.out = true := h
    unfold haltB at h
    simp only [Bool.and_eq_true, decide_eq_true_eq] at h
    rw [onF_stop (show ¬ t.out.how = 0 by omega)]
  · have h : silB f (t, s) = true := h
    unfold silB at h
    simp only [Bool.and_eq_true, decide_eq_true_eq] at h
    obtain ⟨q1, q2, q3⟩ := sil_on (ans := an) m s t (hr h.1) h.1 h.2
    refine ⟨q1, ?_⟩
    show silB f (onF f an m s t) = true
    unfold silB
    rw [q2, q3]
    rfl
  · obtain ⟨l, hl⟩ := onF_pre f an m s t
    exact ⟨l, hl.symm⟩
theorem grow_ans {f : List Ins} {R hp an : List Int} {fu : Int} (more : List Int) (hf : fnOk f = true) (hc : csRight ⟨R, hp, an, fu⟩ = true) : Grow (sdF f ⟨R, hp, an, fu⟩) (sdF f ⟨R, hp, an ++ more, fu⟩) := by
  have hb := beginS_right hf hc (fnOk_iff.1 hf).2.1
  obtain ⟨k1, l, k2⟩ := runF_ans (more := more) hb
  refine ⟨fun h => ?_, fun h => ?_, ⟨l, k2.symm⟩⟩
  · have h : haltB (runF f ⟨R, hp, an, fu⟩).1.out = true := h
    unfold haltB at h
    simp only [Bool.and_eq_true, decide_eq_true_eq] at h
    unfold sdF
    rw [k1 (by omega)]
  · have h : silB f (runF f ⟨R, hp, an, fu⟩) = true := h
    have h' := h
    unfold silB at h'
    simp only [Bool.and_eq_true, decide_eq_true_eq] at h'
    unfold sdF
    rw [k1 (by omega)]
    exact ⟨rfl, h⟩
theorem tell_fuel {f g : List Ins} {R hp an : List Int} {fu : Int} (hf : fnOk f = true) (hg : fnOk g = true) (hc : csRight ⟨R, hp, an, fu⟩ = true) (m : Nat) (h : tellF f g ⟨R, hp, an, fu⟩ ≠ 0) : tellF f g ⟨R, hp, an, fu + (m : Int)⟩ = tellF f g ⟨R, hp, an, fu⟩ :=
  tell_grow (grow_fuel hf hc m) (grow_fuel hg hc m) (sdOf_ok _ _) (sdOf_ok _ _) (sdOf_ok _ _) (sdOf_ok _ _) h
theorem tell_ans {f g : List Ins} {R hp an : List Int} {fu : Int} (more : List Int) (hf : fnOk f = true) (hg : fnOk g = true) (hc : csRight ⟨R, hp, an, fu⟩ = true) (h : tellF f g ⟨R, hp, an, fu⟩ ≠ 0) : tellF f g ⟨R, hp, an ++ more, fu⟩ = tellF f g ⟨R, hp, an, fu⟩ :=
  tell_grow (grow_ans more hf hc) (grow_ans more hg hc) (sdOf_ok _ _) (sdOf_ok _ _) (sdOf_ok _ _) (sdOf_ok _ _) h
theorem tell_comm (f g : List Ins) (c : Cs) : tellF f g c = tellF g f c := tellS_comm _ _
theorem tell_self (f : List Ins) (c : Cs) : tellF f f c = 0 := tellS_self (sdOf_ok _ _)
end Go.Proofs.YtphmakopjfbmnaaDoor
namespace Go.Proofs.YtphmakopjfbmnaaDoor
open Go.RowKit
set_option linter.unusedVariables false
set_option linter.unusedSimpArgs false
def sideA (t : Tr) (sl : Bool) : AV := .agg [evs t.evs, .int .i64 t.out.how, .int .i64 t.out.value, ints t.out.heap, .int .i64 t.steps, .int .i64 t.work, .bool sl]
theorem sideA_eq (t : Tr) (sl : Bool) : sideA t sl = .agg [.list (t.evs.map encEv), .int .i64 t.out.how, .int .i64 t.out.value, .list (t.out.heap.map encI), .int .i64 t.steps, .int .i64 t.work, .bool sl] := rfl
theorem drop_ev {l : List Ev} {j : Nat} (h : j < l.length) : l.drop j = l.getD j ⟨0, 0, 0⟩ :: l.drop (j + 1) := by
  rw [List.drop_eq_getElem_cons h]
  simp [List.getD, h]
theorem getD_ev {l : List Ev} {j : Nat} (h : j < l.length) : (l.map encEv).getD j [] = [.int .i64 (l.getD j ⟨0, 0, 0⟩).n, .int .i64 (l.getD j ⟨0, 0, 0⟩).arg, .int .i64 (l.getD j ⟨0, 0, 0⟩).ans] := by
  simp [List.getD, h, encEv]
theorem ev_dec' (x y : Ev) : (decide (x.n = y.n) && (decide (x.arg = y.arg) && decide (x.ans = y.ans))) = decide (x = y) := by
  cases x; cases y
  rw [Bool.eq_iff_iff]
  simp
set_option maxHeartbeats 4000000 in
theorem differ_Begins_ok (a b : List Ev) (hl : a.length ≤ 9223372036854775806) : Pure Tryd.prog 22 [evs a, evs b] (.bool (begB a b)) := by
  intro H
  refine ACalls.go differ_Begins.low (by simp) fun hcl => ?_
  have hB : begB a b = (decide (a.length ≤ b.length) && decide (a = b.take a.length)) := rfl
  rw [hB]
  by_cases hgt : a.length ≤ b.length
  · have e1 : ¬ (b.length : Int) < (a.length : Int) := by omega
    rw [decide_eq_true hgt, Bool.true_and]
    have hs : decide (a = b.take a.length) = decide (a.drop 0 = (b.take a.length).drop 0) := rfl
    generalize decide (a = b.take a.length) = B at *
    replace hs := Hold.mk hs
    replace hgt := Hold.mk hgt
    replace hB := Hold.mk hB
    repeat' (first | simp only [seval, evx, beq_self_eq_true, sb, ew, ec, et, evs_eq, encEv_def, List.map_nil, Nat.mul_one, sideA_eq, trA_eq, *] | simp (disch := omega) only [if_pos, if_neg] | refine R.seq ?_ | refine LCB.text ?_ | refine LCB.quiet rfl ?_ | refine R.anyX ?_ | refine R.block ?_ | refine LCB.skip ?_ | refine LCB.exit ?_ | refine LCB.ret ?_ | ((first | refine RetOk.val hcl ?_ | refine Weak.at hcl ?_); simp only [seval, evw, fm, sb, ew, ec, et, evs_eq, encEv_def, List.map_nil, Nat.mul_one, sideA_eq, trA_eq, *]) | ((first | refine LCB.cond (by simp only [seval, evx] <;> rfl) ?_ ?_ | refine wpG_split (by simp only [seval, evx] <;> rfl) ?_ ?_ | refine wxG_split (by simp only [seval, evx] <;> rfl) ?_ ?_) <;> (intro hc; try simp only [seval, nf] at hc)) | refine ACalls.inst ?_ | refine CallX.inst ?_ | (with_reducible refine And.intro ?_ ?_) | exact True.intro)
    refine R.loop (S := Nat) ⟨fun i => [(0, .list (a.map encEv)), (1, .list (b.map encEv)), (12, .list (a.map encEv)), (13, .int .i64 (a.length : Int)), (14, .int .i64 (i : Int))], fun _ => H ++ [],
      fun i => i ≤ a.length ∧ decide (a.drop i = (b.take a.length).drop i) = B, fun i => a.length - i⟩ 0 ⟨Nat.zero_le _, hs.of.symm⟩ (Weak.at hcl ?_) ?_
    · simp only [seval, evw, fm, sb, ew, ec, et, evs_eq, encEv_def, List.map_nil, Nat.mul_one, sideA_eq, trA_eq, *]
    rintro i ⟨hi, hq⟩
    simp only at hi hq ⊢
    by_cases hlt : i < a.length
    · have hg := getD_ev hlt
      have hlt2 : i < b.length := by have := hgt.of; omega
      have hg2 := getD_ev hlt2
      have hd2 : (b.take a.length).drop i = b.getD i ⟨0, 0, 0⟩ :: (b.take a.length).drop (i + 1) := by
        rw [drop_ev (by rw [List.length_take]; omega)]
        congr 1
        rw [List.getD_eq_getElem?_getD, List.getElem?_take, if_pos hlt, List.getD_eq_getElem?_getD]
      rw [drop_ev hlt, hd2] at hq
      have hne := ev_dec' (a.getD i ⟨0, 0, 0⟩) (b.getD i ⟨0, 0, 0⟩)
      have e3 : (i : Int) < (a.length : Int) := by omega
      have e5 : (i : Int) < (b.length : Int) := by omega
      have e4 : IntKind.i64.wrap ((i : Int) + 1) = ((i + 1 : Nat) : Int) := by rw [IntKind.wrap_i64]; omega
      clear hd2
      generalize a.getD i ⟨0, 0, 0⟩ = x at *
      generalize b.getD i ⟨0, 0, 0⟩ = y at *
      by_cases hxy : x = y
      · subst hxy
        have hq2 : decide (a.drop (i + 1) = (b.take a.length).drop (i + 1)) = B := by rw [← hq]; simp
        clear hq hne
        replace hq2 := Hold.mk hq2
        repeat' (first | simp only [seval, evx, beq_self_eq_true, sb, ew, ec, et, evs_eq, encEv_def, List.map_nil, Nat.mul_one, sideA_eq, trA_eq, *] | simp (disch := omega) only [if_pos, if_neg] | refine R.seq ?_ | refine LCB.text ?_ | refine LCB.quiet rfl ?_ | refine R.anyX ?_ | refine R.block ?_ | refine LCB.skip ?_ | refine LCB.exit ?_ | refine LCB.ret ?_ | ((first | refine RetOk.val hcl ?_ | refine Weak.at hcl ?_); simp only [seval, evw, fm, sb, ew, ec, et, evs_eq, encEv_def, List.map_nil, Nat.mul_one, sideA_eq, trA_eq, *]) | ((first | refine LCB.cond (by simp only [seval, evx] <;> rfl) ?_ ?_ | refine wpG_split (by simp only [seval, evx] <;> rfl) ?_ ?_ | refine wxG_split (by simp only [seval, evx] <;> rfl) ?_ ?_) <;> (intro hc; try simp only [seval, nf] at hc)) | refine ACalls.inst ?_ | refine CallX.inst ?_ | (with_reducible refine And.intro ?_ ?_) | exact True.intro)
        refine ⟨i + 1, ⟨hlt, hq2.of⟩, by simp only; omega, Weak.at hcl ?_⟩
        simp only [seval, evw, fm, sb, ew, ec, et, evs_eq, encEv_def, List.map_nil, Nat.mul_one, sideA_eq, trA_eq, *]
      · rw [decide_eq_false hxy] at hne
        have hB2 : B = false := by rw [← hq]; simp [hxy]
        replace hq := Hold.mk hq
        repeat' (first | simp only [seval, evx, beq_self_eq_true, sb, ew, ec, et, evs_eq, encEv_def, List.map_nil, Nat.mul_one, sideA_eq, trA_eq, *] | simp (disch := omega) only [if_pos, if_neg] | refine R.seq ?_ | refine LCB.text ?_ | refine LCB.quiet rfl ?_ | refine R.anyX ?_ | refine R.block ?_ | refine LCB.skip ?_ | refine LCB.exit ?_ | refine LCB.ret ?_ | ((first | refine RetOk.val hcl ?_ | refine Weak.at hcl ?_); simp only [seval, evw, fm, sb, ew, ec, et, evs_eq, encEv_def, List.map_nil, Nat.mul_one, sideA_eq, trA_eq, *]) | ((first | refine LCB.cond (by simp only [seval, evx] <;> rfl) ?_ ?_ | refine wpG_split (by simp only [seval, evx] <;> rfl) ?_ ?_ | refine wxG_split (by simp only [seval, evx] <;> rfl) ?_ ?_) <;> (intro hc; try simp only [seval, nf] at hc)) | refine ACalls.inst ?_ | refine CallX.inst ?_ | (with_reducible refine And.intro ?_ ?_) | exact True.intro)
    · have hie : i = a.length := by omega
      subst hie
      have e3 : ¬ (a.length : Int) < (a.length : Int) := by omega
      have hB2 : B = true := by rw [← hq]; simp
      replace hq := Hold.mk hq
      repeat' (first | simp only [seval, evx, beq_self_eq_true, sb, ew, ec, et, evs_eq, encEv_def, List.map_nil, Nat.mul_one, sideA_eq, trA_eq, *] | simp (disch := omega) only [if_pos, if_neg] | refine R.seq ?_ | refine LCB.text ?_ | refine LCB.quiet rfl ?_ | refine R.anyX ?_ | refine R.block ?_ | refine LCB.skip ?_ | refine LCB.exit ?_ | refine LCB.ret ?_ | ((first | refine RetOk.val hcl ?_ | refine Weak.at hcl ?_); simp only [seval, evw, fm, sb, ew, ec, et, evs_eq, encEv_def, List.map_nil, Nat.mul_one, sideA_eq, trA_eq, *]) | ((first | refine LCB.cond (by simp only [seval, evx] <;> rfl) ?_ ?_ | refine wpG_split (by simp only [seval, evx] <;> rfl) ?_ ?_ | refine wxG_split (by simp only [seval, evx] <;> rfl) ?_ ?_) <;> (intro hc; try simp only [seval, nf] at hc)) | refine ACalls.inst ?_ | refine CallX.inst ?_ | (with_reducible refine And.intro ?_ ?_) | exact True.intro)
  · have e1 : (b.length : Int) < (a.length : Int) := by omega
    rw [decide_eq_false hgt, Bool.false_and]
    clear hB
    repeat' (first | simp only [seval, evx, beq_self_eq_true, sb, ew, ec, et, evs_eq, encEv_def, List.map_nil, Nat.mul_one, sideA_eq, trA_eq, *] | simp (disch := omega) only [if_pos, if_neg] | refine R.seq ?_ | refine LCB.text ?_ | refine LCB.quiet rfl ?_ | refine R.anyX ?_ | refine R.block ?_ | refine LCB.skip ?_ | refine LCB.exit ?_ | refine LCB.ret ?_ | ((first | refine RetOk.val hcl ?_ | refine Weak.at hcl ?_); simp only [seval, evw, fm, sb, ew, ec, et, evs_eq, encEv_def, List.map_nil, Nat.mul_one, sideA_eq, trA_eq, *]) | ((first | refine LCB.cond (by simp only [seval, evx] <;> rfl) ?_ ?_ | refine wpG_split (by simp only [seval, evx] <;> rfl) ?_ ?_ | refine wxG_split (by simp only [seval, evx] <;> rfl) ?_ ?_) <;> (intro hc; try simp only [seval, nf] at hc)) | refine ACalls.inst ?_ | refine CallX.inst ?_ | (with_reducible refine And.intro ?_ ?_) | exact True.intro)
theorem differ_Halted_ok (t : Tr) : Pure Tryd.prog 24 [trA t] (.bool (haltB t.out)) := by
  intro H
  refine ACalls.go differ_Halted.low (by simp) fun hcl => ?_
  rw [trA_eq]
  generalize hb : haltB t.out = b
  have hb' : b = (decide (1 ≤ t.out.how) && decide (t.out.how ≤ 4)) := by rw [← hb]; rfl
  clear hb
  replace hb' := Hold.mk hb'
  repeat' (first | simp only [seval, evx, beq_self_eq_true, sb, ew, ec, et, evs_eq, encEv_def, List.map_nil, Nat.mul_one, sideA_eq, trA_eq, *] | simp (disch := omega) only [if_pos, if_neg] | refine R.seq ?_ | refine LCB.text ?_ | refine LCB.quiet rfl ?_ | refine R.anyX ?_ | refine R.block ?_ | refine LCB.skip ?_ | refine LCB.exit ?_ | refine LCB.ret ?_ | ((first | refine RetOk.val hcl ?_ | refine Weak.at hcl ?_); simp only [seval, evw, fm, sb, ew, ec, et, evs_eq, encEv_def, List.map_nil, Nat.mul_one, sideA_eq, trA_eq, *]) | ((first | refine LCB.cond (by simp only [seval, evx] <;> rfl) ?_ ?_ | refine wpG_split (by simp only [seval, evx] <;> rfl) ?_ ?_ | refine wxG_split (by simp only [seval, evx] <;> rfl) ?_ ?_) <;> (intro hc; try simp only [seval, nf] at hc)) | refine ACalls.inst ?_ | refine CallX.inst ?_ | (with_reducible refine And.intro ?_ ?_) | exact True.intro)
  all_goals rw [hb'.of]
  all_goals first
    | (rw [decide_eq_true (by omega), decide_eq_true (by omega)]; rfl)
    | (symm; rw [Bool.and_eq_false_iff, decide_eq_false_iff_not, decide_eq_false_iff_not]; omega)
    | (rw [Bool.eq_iff_iff]; simp; omega)
end Go.Proofs.YtphmakopjfbmnaaDoor
namespace Go.Proofs.YtphmakopjfbmnaaDoor
open Go.RowKit
set_option linter.unusedVariables false
set_option linter.unusedSimpArgs false
theorem differ_either_ok {g : FuncId} {a b : Tr} {p q x y : Bool} (g1 : Pure Tryd.prog g [sideA a p, sideA b q] (.bool x)) (g2 : Pure Tryd.prog g [sideA b q, sideA a p] (.bool y)) : Pure Tryd.prog 20 [sideA a p, sideA b q, .fn (.func g) [] []] (.bool (x || y)) := by
  intro H
  refine ACalls.go differ_either.low (by simp) fun hcl => ?_
  rw [sideA_eq, sideA_eq] at *
  have h1 := Hold.mk g1
  have h2 := Hold.mk g2
  clear g1 g2
  cases x <;> (repeat' (first | simp only [seval, evx, beq_self_eq_true, sb, ew, ec, et, evs_eq, encEv_def, List.map_nil, Nat.mul_one, *] | simp (disch := omega) only [if_pos, if_neg] | refine R.seq ?_ | refine LCB.text ?_ | refine LCB.quiet rfl ?_ | refine R.anyX ?_ | refine R.block ?_ | refine LCB.skip ?_ | refine LCB.exit ?_ | refine LCB.ret ?_ | ((first | refine RetOk.val hcl ?_ | refine Weak.at hcl ?_); simp only [seval, evw, fm, sb, ew, ec, et, evs_eq, encEv_def, List.map_nil, Nat.mul_one, *]) | ((first | refine LCB.cond (by simp only [seval, evx] <;> rfl) ?_ ?_ | refine wpG_split (by simp only [seval, evx] <;> rfl) ?_ ?_ | refine wxG_split (by simp only [seval, evx] <;> rfl) ?_ ?_) <;> (intro hc; try simp only [seval, nf] at hc)) | refine ACalls.inst ?_ | refine CallX.inst ?_ | (with_reducible refine And.intro ?_ ?_) | exact True.intro | refine CallX.pure h1.of ?_ | refine ACalls.pure h1.of ?_ | refine CallX.pure h2.of ?_ | refine ACalls.pure h2.of ?_ | refine CallX.pure h3.of ?_ | refine ACalls.pure h3.of ?_ | refine CallX.pure h4.of ?_ | refine CallX.pure h5.of ?_ | refine CallX.pure h6.of ?_ | refine ACalls.pure h4.of ?_))
theorem differ_Tell_1_ok (a b : Tr) (p q : Bool) (hl : a.evs.length ≤ 9223372036854775806) : Pure Tryd.prog 21 [sideA a p, sideA b q] (.bool (begB a.evs b.evs)) := by
  intro H
  refine ACalls.go differ_Tell_1.low (by simp) fun hcl => ?_
  have h1 := differ_Begins_ok a.evs b.evs hl
  rw [sideA_eq, sideA_eq]
  unfold evs at h1
  replace h1 := Hold.mk h1
  repeat' (first | simp only [seval, evx, beq_self_eq_true, sb, ew, ec, et, evs_eq, encEv_def, List.map_nil, Nat.mul_one, *] | simp (disch := omega) only [if_pos, if_neg] | refine R.seq ?_ | refine LCB.text ?_ | refine LCB.quiet rfl ?_ | refine R.anyX ?_ | refine R.block ?_ | refine LCB.skip ?_ | refine LCB.exit ?_ | refine LCB.ret ?_ | ((first | refine RetOk.val hcl ?_ | refine Weak.at hcl ?_); simp only [seval, evw, fm, sb, ew, ec, et, evs_eq, encEv_def, List.map_nil, Nat.mul_one, *]) | ((first | refine LCB.cond (by simp only [seval, evx] <;> rfl) ?_ ?_ | refine wpG_split (by simp only [seval, evx] <;> rfl) ?_ ?_ | refine wxG_split (by simp only [seval, evx] <;> rfl) ?_ ?_) <;> (intro hc; try simp only [seval, nf] at hc)) | refine ACalls.inst ?_ | refine CallX.inst ?_ | (with_reducible refine And.intro ?_ ?_) | exact True.intro | refine CallX.pure h1.of ?_ | refine ACalls.pure h1.of ?_ | refine CallX.pure h2.of ?_ | refine ACalls.pure h2.of ?_ | refine CallX.pure h3.of ?_ | refine ACalls.pure h3.of ?_ | refine CallX.pure h4.of ?_ | refine CallX.pure h5.of ?_ | refine CallX.pure h6.of ?_ | refine ACalls.pure h4.of ?_)
theorem differ_Tell_2_ok (a b : Tr) (p q : Bool) (hl : b.evs.length ≤ 9223372036854775806) : Pure Tryd.prog 23 [sideA a p, sideA b q] (.bool (haltB a.out && !begB b.evs a.evs)) := by
  intro H
  refine ACalls.go differ_Tell_2.low (by simp) fun hcl => ?_
  have h1 := differ_Begins_ok b.evs a.evs hl
  have h2 := differ_Halted_ok a
  rw [sideA_eq, sideA_eq]
  rw [trA_eq] at h2
  unfold evs at h1
  replace h1 := Hold.mk h1
  cases hh : haltB a.out <;> rw [hh] at h2 <;> replace h2 := Hold.mk h2 <;> (repeat' (first | simp only [seval, evx, beq_self_eq_true, sb, ew, ec, et, evs_eq, encEv_def, List.map_nil, Nat.mul_one, *] | simp (disch := omega) only [if_pos, if_neg] | refine R.seq ?_ | refine LCB.text ?_ | refine LCB.quiet rfl ?_ | refine R.anyX ?_ | refine R.block ?_ | refine LCB.skip ?_ | refine LCB.exit ?_ | refine LCB.ret ?_ | ((first | refine RetOk.val hcl ?_ | refine Weak.at hcl ?_); simp only [seval, evw, fm, sb, ew, ec, et, evs_eq, encEv_def, List.map_nil, Nat.mul_one, *]) | ((first | refine LCB.cond (by simp only [seval, evx] <;> rfl) ?_ ?_ | refine wpG_split (by simp only [seval, evx] <;> rfl) ?_ ?_ | refine wxG_split (by simp only [seval, evx] <;> rfl) ?_ ?_) <;> (intro hc; try simp only [seval, nf] at hc)) | refine ACalls.inst ?_ | refine CallX.inst ?_ | (with_reducible refine And.intro ?_ ?_) | exact True.intro | refine CallX.pure h1.of ?_ | refine ACalls.pure h1.of ?_ | refine CallX.pure h2.of ?_ | refine ACalls.pure h2.of ?_ | refine CallX.pure h3.of ?_ | refine ACalls.pure h3.of ?_ | refine CallX.pure h4.of ?_ | refine CallX.pure h5.of ?_ | refine CallX.pure h6.of ?_ | refine ACalls.pure h4.of ?_))
theorem differ_Tell_3_ok (a b : Tr) (p q : Bool) : Pure Tryd.prog 26 [sideA a p, sideA b q] (.bool (haltB a.out && q)) := by
  intro H
  refine ACalls.go differ_Tell_3.low (by simp) fun hcl => ?_
  have h2 := differ_Halted_ok a
  rw [sideA_eq, sideA_eq]
  rw [trA_eq] at h2
  cases hh : haltB a.out <;> rw [hh] at h2 <;> replace h2 := Hold.mk h2 <;> (repeat' (first | simp only [seval, evx, beq_self_eq_true, sb, ew, ec, et, evs_eq, encEv_def, List.map_nil, Nat.mul_one, *] | simp (disch := omega) only [if_pos, if_neg] | refine R.seq ?_ | refine LCB.text ?_ | refine LCB.quiet rfl ?_ | refine R.anyX ?_ | refine R.block ?_ | refine LCB.skip ?_ | refine LCB.exit ?_ | refine LCB.ret ?_ | ((first | refine RetOk.val hcl ?_ | refine Weak.at hcl ?_); simp only [seval, evw, fm, sb, ew, ec, et, evs_eq, encEv_def, List.map_nil, Nat.mul_one, *]) | ((first | refine LCB.cond (by simp only [seval, evx] <;> rfl) ?_ ?_ | refine wpG_split (by simp only [seval, evx] <;> rfl) ?_ ?_ | refine wxG_split (by simp only [seval, evx] <;> rfl) ?_ ?_) <;> (intro hc; try simp only [seval, nf] at hc)) | refine ACalls.inst ?_ | refine CallX.inst ?_ | (with_reducible refine And.intro ?_ ?_) | exact True.intro | refine CallX.pure h1.of ?_ | refine ACalls.pure h1.of ?_ | refine CallX.pure h2.of ?_ | refine ACalls.pure h2.of ?_ | refine CallX.pure h3.of ?_ | refine ACalls.pure h3.of ?_ | refine CallX.pure h4.of ?_ | refine CallX.pure h5.of ?_ | refine CallX.pure h6.of ?_ | refine ACalls.pure h4.of ?_))
end Go.Proofs.YtphmakopjfbmnaaDoor
namespace Go.Proofs.YtphmakopjfbmnaaDoor
open Go.RowKit
set_option linter.unusedVariables false
set_option linter.unusedSimpArgs false
theorem onF_still {f : List Ins} {ans : List Int} : ∀ (n : Nat) (s : St) (t : Tr), stRight f s = true → stRight f (onF f ans n s t).2 = true
  | 0, s, t, h => h
  | n + 1, s, t, h => by
    by_cases h0 : t.out.how = 0
    · rw [onF, if_pos h0]
      exact onF_still n _ _ (stepF_still h)
    · rw [onF_stop h0]
      exact h
theorem onF_evlen {f : List Ins} {ans : List Int} : ∀ (n : Nat) (s : St) (t : Tr), (onF f ans n s t).1.evs.length ≤ t.evs.length + n
  | 0, s, t => Nat.le_refl _
  | n + 1, s, t => by
    by_cases h0 : t.out.how = 0
    · rw [onF, if_pos h0]
      have h1 := onF_evlen n (stepF f s ans).1 (nextT f ans s t) (ans := ans) (f := f)
      have h2 := stepF_evs f s ans
      have e : (nextT f ans s t).evs.length = t.evs.length + (stepF f s ans).2.1.length := List.length_append
      omega
    · rw [onF_stop h0]
      show t.evs.length ≤ _
      omega
theorem onF_L {f : List Ins} {ans : List Int} : ∀ (n : Nat) (s : St) (t : Tr), (onF f ans n s t).2.L.length = s.L.length
  | 0, s, t => rfl
  | n + 1, s, t => by
    by_cases h0 : t.out.how = 0
    · rw [onF, if_pos h0, onF_L n, stepF_len]
    · rw [onF_stop h0]
def ofA (f : List Ins) (c : Cs) : AV := if fnOk f && csRight c then .tup [sideA (runF f c).1 (silB f (runF f c)), .int .i64 0] else .tup [sideA tr0 false, .int .i64 1]
theorem tr0_side : sideA tr0 false = .agg [.list [], .int .i64 0, .int .i64 0, .list [], .int .i64 0, .int .i64 0, .bool false] := rfl
set_option maxRecDepth 20000 in
set_option maxHeartbeats 16000000 in
theorem differ_of_ok (f : List Ins) (c : Cs) (hR : c.R.length = 8) (hf : f.length ≤ 9223372036854775807) : Pure Tryd.prog 19 [encFn f, csA c] (ofA f c) := by
  intro H
  refine ACalls.go differ_of.low (by simp) fun hcl => ?_
  have h1 := run_Run_ok f c hR hf
  have hil : (ic c.R).length = 8 := by rw [ic_len, hR]
  unfold runA at h1
  unfold ofA
  cases hr : fnOk f && csRight c
  · rw [hr, if_neg (by decide), tr0_eq, st0_eq] at h1
    rw [if_neg (by decide), tr0_side]
    rw [csA_eq] at *
    unfold encFn at *
    replace h1 := Hold.mk h1
    replace hr := Hold.mk hr
    repeat' (first | simp only [seval, evx, beq_self_eq_true, sb, ew, ec, et, z51_cl, z51_dr, z51_ac, z51_ln, evs_eq, encEv_def, List.map_nil, Nat.mul_one, sideA_eq, trA_eq, *] | simp (disch := omega) only [if_pos, if_neg] | refine R.seq ?_ | refine LCB.text ?_ | refine LCB.quiet rfl ?_ | refine R.anyX ?_ | refine R.block ?_ | refine LCB.skip ?_ | refine LCB.exit ?_ | refine LCB.ret ?_ | ((first | refine RetOk.val hcl ?_ | refine Weak.at hcl ?_); simp only [seval, evw, fm, sb, ew, ec, et, z51_cl, z51_dr, z51_ac, z51_ln, evs_eq, encEv_def, List.map_nil, Nat.mul_one, sideA_eq, trA_eq, *]) | ((first | refine LCB.cond (by simp only [seval, evx] <;> rfl) ?_ ?_ | refine wpG_split (by simp only [seval, evx] <;> rfl) ?_ ?_ | refine wxG_split (by simp only [seval, evx] <;> rfl) ?_ ?_) <;> (intro hc; try simp only [seval, nf] at hc)) | refine ACalls.inst ?_ | refine CallX.inst ?_ | (with_reducible refine And.intro ?_ ?_) | exact True.intro | refine CallX.pure h1.of ?_ | refine ACalls.pure h1.of ?_ | refine CallX.pure h2.of ?_ | refine ACalls.pure h2.of ?_)
  rw [hr, if_pos rfl] at h1
  rw [if_pos rfl]
  simp only [Bool.and_eq_true] at hr
  obtain ⟨r1, r2⟩ := hr
  have hst : stRight f (runF f c).2 = true := onF_still _ _ _ (beginS_right r1 r2 (fnOk_iff.1 r1).2.1)
  have hsl : (runF f c).2.L.length = 24 := by
    unfold runF
    rw [onF_L, beginS_len hR]
  have hsil : silB f (runF f c) = (decide ((runF f c).1.out.how = 0) && decide (pathTo f (f.length + 1) (runF f c).2.pc.toNat = none)) := rfl
  generalize silB f (runF f c) = sl at *
  generalize runF f c = r at *
  obtain ⟨t, s⟩ := r
  simp only at h1 hst hsl hsil ⊢
  obtain ⟨k1, k2, k3, k4, k5, k6⟩ := stRight_iff.1 hst
  obtain ⟨L, heap, pc, asked⟩ := s
  simp only at k2 k3 hsl hsil
  obtain ⟨a, rfl⟩ := Int.eq_ofNat_of_zero_le k2
  have ha : a < f.length := by omega
  have h2 := path_From_ok f (a : Int) hf
  rw [pathA_yes r1 ha] at h2
  rw [Int.toNat_natCast, ← pathF_to] at hsil
  have hwl : (wc L).length = 48 := by rw [wc_len, hsl]
  have hpl := pathR_lt r1 (f.length + 1) a tb0 0 ha tb0_ok
  have htl0 : (tbc tb0).length = 24 := by rw [tbc_len]; rfl
  have hpe : pathF f a = pathR f (f.length + 1) a tb0 0 := rfl
  rw [← hpe] at hpl
  obtain ⟨tev, ⟨th, tv, thp⟩, tst, twk⟩ := t
  simp only at hsil
  rw [csA_eq] at *
  rw [trA_eq, stA_eq] at h1
  rw [sideA_eq]
  simp only at h1 ⊢
  unfold encFn at *
  clear hst k1 k2 k3 k4 k5 k6 r1 r2 ha hpe
  replace h1 := Hold.mk h1
  replace hR := Hold.mk hR
  cases hp : pathF f a with
  | none =>
    rw [hp] at h2 hsil
    simp only at h2
    rw [Option.map_none, decide_eq_true rfl, Bool.and_true] at hsil
    clear hpl
    replace h2 := Hold.mk h2
    replace hp := Hold.mk hp
    by_cases h0 : th = 0
    · rw [decide_eq_true h0] at hsil
      subst hsil
      repeat' (first | simp only [seval, evx, beq_self_eq_true, sb, ew, ec, et, z51_cl, z51_dr, z51_ac, z51_ln, evs_eq, encEv_def, List.map_nil, Nat.mul_one, sideA_eq, trA_eq, *] | simp (disch := omega) only [if_pos, if_neg] | refine R.seq ?_ | refine LCB.text ?_ | refine LCB.quiet rfl ?_ | refine R.anyX ?_ | refine R.block ?_ | refine LCB.skip ?_ | refine LCB.exit ?_ | refine LCB.ret ?_ | ((first | refine RetOk.val hcl ?_ | refine Weak.at hcl ?_); simp only [seval, evw, fm, sb, ew, ec, et, z51_cl, z51_dr, z51_ac, z51_ln, evs_eq, encEv_def, List.map_nil, Nat.mul_one, sideA_eq, trA_eq, *]) | ((first | refine LCB.cond (by simp only [seval, evx] <;> rfl) ?_ ?_ | refine wpG_split (by simp only [seval, evx] <;> rfl) ?_ ?_ | refine wxG_split (by simp only [seval, evx] <;> rfl) ?_ ?_) <;> (intro hc; try simp only [seval, nf] at hc)) | refine ACalls.inst ?_ | refine CallX.inst ?_ | (with_reducible refine And.intro ?_ ?_) | exact True.intro | refine CallX.pure h1.of ?_ | refine ACalls.pure h1.of ?_ | refine CallX.pure h2.of ?_ | refine ACalls.pure h2.of ?_)
    · rw [decide_eq_false h0] at hsil
      subst hsil
      repeat' (first | simp only [seval, evx, beq_self_eq_true, sb, ew, ec, et, z51_cl, z51_dr, z51_ac, z51_ln, evs_eq, encEv_def, List.map_nil, Nat.mul_one, sideA_eq, trA_eq, *] | simp (disch := omega) only [if_pos, if_neg] | refine R.seq ?_ | refine LCB.text ?_ | refine LCB.quiet rfl ?_ | refine R.anyX ?_ | refine R.block ?_ | refine LCB.skip ?_ | refine LCB.exit ?_ | refine LCB.ret ?_ | ((first | refine RetOk.val hcl ?_ | refine Weak.at hcl ?_); simp only [seval, evw, fm, sb, ew, ec, et, z51_cl, z51_dr, z51_ac, z51_ln, evs_eq, encEv_def, List.map_nil, Nat.mul_one, sideA_eq, trA_eq, *]) | ((first | refine LCB.cond (by simp only [seval, evx] <;> rfl) ?_ ?_ | refine wpG_split (by simp only [seval, evx] <;> rfl) ?_ ?_ | refine wxG_split (by simp only [seval, evx] <;> rfl) ?_ ?_) <;> (intro hc; try simp only [seval, nf] at hc)) | refine ACalls.inst ?_ | refine CallX.inst ?_ | (with_reducible refine And.intro ?_ ?_) | exact True.intro | refine CallX.pure h1.of ?_ | refine ACalls.pure h1.of ?_ | refine CallX.pure h2.of ?_ | refine ACalls.pure h2.of ?_)
  | some q =>
    obtain ⟨q, U, m⟩ := q
    rw [hp] at h2 hsil
    simp only at h2
    have hsome : decide (Option.map (·.1) (some (q, U, m)) = none) = false := rfl
    rw [hsome, Bool.and_false] at hsil
    obtain ⟨-, hU, -, -⟩ := hpl q U m hp
    have htl : (tbc U).length = 24 := by rw [tbc_len, hU.1]
    have hq0 : ¬ (q : Int) < 0 := by omega
    subst hsil
    clear hpl hU
    replace h2 := Hold.mk h2
    replace hp := Hold.mk hp
    by_cases h0 : th = 0
    · repeat' (first | simp only [seval, evx, beq_self_eq_true, sb, ew, ec, et, z51_cl, z51_dr, z51_ac, z51_ln, evs_eq, encEv_def, List.map_nil, Nat.mul_one, sideA_eq, trA_eq, *] | simp (disch := omega) only [if_pos, if_neg] | refine R.seq ?_ | refine LCB.text ?_ | refine LCB.quiet rfl ?_ | refine R.anyX ?_ | refine R.block ?_ | refine LCB.skip ?_ | refine LCB.exit ?_ | refine LCB.ret ?_ | ((first | refine RetOk.val hcl ?_ | refine Weak.at hcl ?_); simp only [seval, evw, fm, sb, ew, ec, et, z51_cl, z51_dr, z51_ac, z51_ln, evs_eq, encEv_def, List.map_nil, Nat.mul_one, sideA_eq, trA_eq, *]) | ((first | refine LCB.cond (by simp only [seval, evx] <;> rfl) ?_ ?_ | refine wpG_split (by simp only [seval, evx] <;> rfl) ?_ ?_ | refine wxG_split (by simp only [seval, evx] <;> rfl) ?_ ?_) <;> (intro hc; try simp only [seval, nf] at hc)) | refine ACalls.inst ?_ | refine CallX.inst ?_ | (with_reducible refine And.intro ?_ ?_) | exact True.intro | refine CallX.pure h1.of ?_ | refine ACalls.pure h1.of ?_ | refine CallX.pure h2.of ?_ | refine ACalls.pure h2.of ?_)
    · repeat' (first | simp only [seval, evx, beq_self_eq_true, sb, ew, ec, et, z51_cl, z51_dr, z51_ac, z51_ln, evs_eq, encEv_def, List.map_nil, Nat.mul_one, sideA_eq, trA_eq, *] | simp (disch := omega) only [if_pos, if_neg] | refine R.seq ?_ | refine LCB.text ?_ | refine LCB.quiet rfl ?_ | refine R.anyX ?_ | refine R.block ?_ | refine LCB.skip ?_ | refine LCB.exit ?_ | refine LCB.ret ?_ | ((first | refine RetOk.val hcl ?_ | refine Weak.at hcl ?_); simp only [seval, evw, fm, sb, ew, ec, et, z51_cl, z51_dr, z51_ac, z51_ln, evs_eq, encEv_def, List.map_nil, Nat.mul_one, sideA_eq, trA_eq, *]) | ((first | refine LCB.cond (by simp only [seval, evx] <;> rfl) ?_ ?_ | refine wpG_split (by simp only [seval, evx] <;> rfl) ?_ ?_ | refine wxG_split (by simp only [seval, evx] <;> rfl) ?_ ?_) <;> (intro hc; try simp only [seval, nf] at hc)) | refine ACalls.inst ?_ | refine CallX.inst ?_ | (with_reducible refine And.intro ?_ ?_) | exact True.intro | refine CallX.pure h1.of ?_ | refine ACalls.pure h1.of ?_ | refine CallX.pure h2.of ?_ | refine ACalls.pure h2.of ?_)
end Go.Proofs.YtphmakopjfbmnaaDoor
namespace Go.Proofs.YtphmakopjfbmnaaDoor
open Go.RowKit
set_option linter.unusedVariables false
set_option linter.unusedSimpArgs false
def leastG (P : Nat → Bool) : Nat → Nat → Nat
  | 0, i => i
  | k + 1, i => if P i then i else leastG P k (i + 1)
def leastN (P : Nat → Bool) (n : Nat) : Nat := leastG P n 0
theorem leastG_spec (P : Nat → Bool) : ∀ (k i : Nat), i ≤ leastG P k i ∧ leastG P k i ≤ i + k ∧ (P (leastG P k i) = true ∨ leastG P k i = i + k) ∧ ∀ j, i ≤ j → j < leastG P k i → P j = false
  | 0, i => ⟨Nat.le_refl _, Nat.le_refl _, .inr rfl, fun j h1 h2 => absurd h2 (by rw [leastG]; omega)⟩
  | k + 1, i => by
    rw [leastG]
    split
    · rename_i h
      exact ⟨Nat.le_refl _, by omega, .inl h, fun j h1 h2 => by omega⟩
    · rename_i h
      obtain ⟨h1, h2, h3, h4⟩ := leastG_spec P k (i + 1)
      refine ⟨by omega, by omega, ?_, fun j g1 g2 => ?_⟩
      · rcases h3 with h3 | h3
        · exact .inl h3
        · exact .inr (by omega)
      · by_cases e : j = i
        · subst e; simpa using h
        · exact h4 j (by omega) g2
theorem leastN_spec (P : Nat → Bool) (n : Nat) : leastN P n ≤ n ∧ (P (leastN P n) = true ∨ leastN P n = n) ∧ ∀ j, j < leastN P n → P j = false := by
  obtain ⟨h1, h2, h3, h4⟩ := leastG_spec P n 0
  rw [Nat.zero_add] at h2 h3
  exact ⟨h2, h3, fun j hj => h4 j (Nat.zero_le _) hj⟩
theorem leastN_tells {P : Nat → Bool} {n : Nat} (h : P n = true) : P (leastN P n) = true := by
  rcases (leastN_spec P n).2.1 with h1 | h1
  · exact h1
  · rw [h1]; exact h
def dropG (P : List Int → Bool) : Nat → List Int → List Int
  | 0, h => h
  | k + 1, h => if h.length = 0 then h else if P (h.take (h.length - 1)) then dropG P k (h.take (h.length - 1)) else h
def dropN (P : List Int → Bool) (h : List Int) : List Int := dropG P h.length h
def zeroN (P : List Int → Bool) (R : List Int) (l : List Nat) : List Int := l.foldl (fun R i => if P (R.set i 0) then R.set i 0 else R) R
def tellsB (f g : List Ins) (c : Cs) : Bool := !decide (tellF f g c = 0)
def shFuel (f g : List Ins) (c : Cs) : Cs := { c with fuel := ((leastN (fun n => tellsB f g { c with fuel := (n : Int) }) c.fuel.toNat : Nat) : Int) }
def shAns (f g : List Ins) (c : Cs) : Cs := { c with ans := c.ans.take (leastN (fun n => tellsB f g { c with ans := c.ans.take n }) c.ans.length) }
def shHeap (f g : List Ins) (c : Cs) : Cs := { c with heap := dropN (fun h => tellsB f g { c with heap := h }) c.heap }
def shRegs (f g : List Ins) (c : Cs) : Cs := { c with R := zeroN (fun R => tellsB f g { c with R := R }) c.R (List.range 8) }
def shrunk (f g : List Ins) (c : Cs) : Cs := shRegs f g (shHeap f g (shAns f g (shFuel f g c)))
theorem dropG_spec {P : List Int → Bool} : ∀ (k : Nat) (h : List Int), P h = true → P (dropG P k h) = true ∧ ∃ n, dropG P k h = h.take n
  | 0, h, hp => ⟨hp, h.length, by rw [List.take_length]; rfl⟩
  | k + 1, h, hp => by
    rw [dropG]
    split
    · exact ⟨hp, h.length, by rw [List.take_length]⟩
    · split
      · rename_i h2
        obtain ⟨q1, n, q2⟩ := dropG_spec k _ h2
        exact ⟨q1, min n (h.length - 1), by rw [q2, List.take_take]⟩
      · exact ⟨hp, h.length, by rw [List.take_length]⟩
theorem zeroN_spec {P : List Int → Bool} : ∀ (l : List Nat) (R : List Int), P R = true → P (zeroN P R l) = true ∧ (zeroN P R l).length = R.length ∧ ∀ i, (zeroN P R l).getD i 0 = R.getD i 0 ∨ (zeroN P R l).getD i 0 = 0
  | [], R, hp => ⟨hp, rfl, fun i => .inl rfl⟩
  | a :: l, R, hp => by
    have e : zeroN P R (a :: l) = zeroN P (if P (R.set a 0) then R.set a 0 else R) l := rfl
    rw [e]
    split
    · rename_i h
      obtain ⟨q1, q2, q3⟩ := zeroN_spec l (R.set a 0) h
      refine ⟨q1, by rw [q2, List.length_set], fun i => ?_⟩
      rcases q3 i with h3 | h3
      · rw [h3]
        rw [List.getD_eq_getElem?_getD, List.getD_eq_getElem?_getD, List.getElem?_set]
        split
        · right
          split <;> rfl
        · left; rfl
      · exact .inr h3
    · exact zeroN_spec l R hp
theorem csRight_iff {c : Cs} : csRight c = true ↔ c.heap.length ≤ 16 ∧ c.ans.length ≤ 5000 ∧ 0 ≤ c.fuel ∧ c.fuel ≤ 5000 := by
  unfold csRight
  simp only [Bool.and_eq_true, decide_eq_true_eq]
theorem tellsB_iff {f g : List Ins} {c : Cs} : tellsB f g c = true ↔ tellF f g c ≠ 0 := by unfold tellsB; simp
theorem sh_fuel {f g : List Ins} {c : Cs} (hc : csRight c = true) (ht : tellsB f g c = true) : csRight (shFuel f g c) = true ∧ tellsB f g (shFuel f g c) = true ∧ (shFuel f g c).fuel ≤ c.fuel := by
  obtain ⟨k1, k2, k3, k4⟩ := csRight_iff.1 hc
  have h1 := leastN_spec (fun n => tellsB f g { c with fuel := (n : Int) }) c.fuel.toNat
  have h2 : (fun n : Nat => tellsB f g { c with fuel := (n : Int) }) c.fuel.toNat = true := by
    show tellsB f g { c with fuel := (c.fuel.toNat : Int) } = true
    rw [show ((c.fuel.toNat : Nat) : Int) = c.fuel by omega]
    exact ht
  have h3 := leastN_tells (P := fun n : Nat => tellsB f g { c with fuel := (n : Int) }) h2
  have hl : (shFuel f g c).fuel ≤ c.fuel := by unfold shFuel; simp only; omega
  exact ⟨csRight_iff.2 ⟨k1, k2, by unfold shFuel; simp only; omega, by omega⟩, h3, hl⟩
theorem sh_ans {f g : List Ins} {c : Cs} (hc : csRight c = true) (ht : tellsB f g c = true) : csRight (shAns f g c) = true ∧ tellsB f g (shAns f g c) = true := by
  obtain ⟨k1, k2, k3, k4⟩ := csRight_iff.1 hc
  have h2 : (fun n : Nat => tellsB f g { c with ans := c.ans.take n }) c.ans.length = true := by
    show tellsB f g { c with ans := c.ans.take c.ans.length } = true
    rw [List.take_length]
    exact ht
  refine ⟨csRight_iff.2 ⟨k1, ?_, k3, k4⟩, leastN_tells (P := fun n : Nat => tellsB f g { c with ans := c.ans.take n }) h2⟩
  unfold shAns
  simp only [List.length_take]
  omega
theorem sh_heap {f g : List Ins} {c : Cs} (hc : csRight c = true) (ht : tellsB f g c = true) : csRight (shHeap f g c) = true ∧ tellsB f g (shHeap f g c) = true ∧ ∃ n, (shHeap f g c).heap = c.heap.take n := by
  obtain ⟨k1, k2, k3, k4⟩ := csRight_iff.1 hc
  obtain ⟨h1, n, h2⟩ := dropG_spec (P := fun h => tellsB f g { c with heap := h }) c.heap.length c.heap ht
  refine ⟨csRight_iff.2 ⟨?_, k2, k3, k4⟩, h1, n, h2⟩
  show (dropG _ c.heap.length c.heap).length ≤ 16
  rw [h2, List.length_take]
  omega
theorem sh_regs {f g : List Ins} {c : Cs} (hc : csRight c = true) (ht : tellsB f g c = true) : csRight (shRegs f g c) = true ∧ tellsB f g (shRegs f g c) = true ∧ (shRegs f g c).R.length = c.R.length ∧ ∀ i, (shRegs f g c).R.getD i 0 = c.R.getD i 0 ∨ (shRegs f g c).R.getD i 0 = 0 := by
  obtain ⟨k1, k2, k3, k4⟩ := csRight_iff.1 hc
  obtain ⟨h1, h2, h3⟩ := zeroN_spec (P := fun R => tellsB f g { c with R := R }) (List.range 8) c.R ht
  exact ⟨csRight_iff.2 ⟨k1, k2, k3, k4⟩, h1, h2, h3⟩
theorem tells_fuel {f g : List Ins} {c : Cs} (hf : fnOk f = true) (hg : fnOk g = true) (hc : csRight c = true) {m n : Nat} (hmn : m ≤ n) (hm : (m : Int) ≤ 5000) (h : tellsB f g { c with fuel := (m : Int) } = true) : tellsB f g { c with fuel := (n : Int) } = true := by
  rw [tellsB_iff] at h ⊢
  obtain ⟨k1, k2, k3, k4⟩ := csRight_iff.1 hc
  have := tell_fuel (R := c.R) (hp := c.heap) (an := c.ans) (fu := (m : Int)) hf hg (csRight_iff.2 ⟨k1, k2, by show (0 : Int) ≤ (m : Int); omega, hm⟩) (n - m) h
  rw [show (m : Int) + ((n - m : Nat) : Int) = (n : Int) by omega] at this
  rw [show tellF f g { c with fuel := (n : Int) } = tellF f g ⟨c.R, c.heap, c.ans, (n : Int)⟩ from rfl, this]
  exact h
theorem tells_ans {f g : List Ins} {c : Cs} (hf : fnOk f = true) (hg : fnOk g = true) (hc : csRight c = true) {m n : Nat} (hmn : m ≤ n) (h : tellsB f g { c with ans := c.ans.take m } = true) : tellsB f g { c with ans := c.ans.take n } = true := by
  rw [tellsB_iff] at h ⊢
  obtain ⟨k1, k2, k3, k4⟩ := csRight_iff.1 hc
  have := tell_ans (R := c.R) (hp := c.heap) (an := c.ans.take m) (fu := c.fuel) ((c.ans.take n).drop m) hf hg (csRight_iff.2 ⟨k1, by rw [List.length_take]; omega, k3, k4⟩) h
  have e : c.ans.take m ++ (c.ans.take n).drop m = c.ans.take n := by
    have := List.take_append_drop m (c.ans.take n)
    rwa [List.take_take, Nat.min_eq_left hmn] at this
  rw [e] at this
  rw [show tellF f g { c with ans := c.ans.take n } = tellF f g ⟨c.R, c.heap, c.ans.take n, c.fuel⟩ from rfl, this]
  exact h
theorem tellsB_comm (f g : List Ins) (c : Cs) : tellsB f g c = tellsB g f c := by unfold tellsB; rw [tell_comm]
theorem shrunk_comm (f g : List Ins) (c : Cs) : shrunk f g c = shrunk g f c := by
  have e : ∀ c, tellsB f g c = tellsB g f c := tellsB_comm f g
  have e1 : ∀ c, shFuel f g c = shFuel g f c := fun c => by unfold shFuel; simp only [e]
  have e2 : ∀ c, shAns f g c = shAns g f c := fun c => by unfold shAns; simp only [e]
  have e3 : ∀ c, shHeap f g c = shHeap g f c := fun c => by unfold shHeap; simp only [e]
  have e4 : ∀ c, shRegs f g c = shRegs g f c := fun c => by unfold shRegs; simp only [e]
  unfold shrunk
  rw [e1, e2, e3, e4]
end Go.Proofs.YtphmakopjfbmnaaDoor
namespace Go.Proofs.YtphmakopjfbmnaaDoor
open Go.RowKit
set_option linter.unusedVariables false
set_option linter.unusedSimpArgs false
theorem out_dec3 (a b : Out) : decide (a = b) = (decide (a.how = b.how) && (decide (a.value = b.value) && decide (a.heap = b.heap))) := by
  cases a; cases b
  rw [Bool.eq_iff_iff]
  simp
theorem stepF_oh {f : List Ins} {s : St} {ask : List Int} (hs : s.heap.length ≤ 16) : (stepF f s ask).2.2.heap.length ≤ 16 := by
  unfold stepF
  split
  · simp only
    split
    · exact hs
    · simp
  · simp
theorem onF_oh {f : List Ins} {ans : List Int} : ∀ (n : Nat) (s : St) (t : Tr), stRight f s = true → t.out.heap.length ≤ 16 → (onF f ans n s t).1.out.heap.length ≤ 16
  | 0, s, t, _, h => h
  | n + 1, s, t, hs, h => by
    by_cases h0 : t.out.how = 0
    · rw [onF, if_pos h0]
      exact onF_oh n _ _ (stepF_still hs) (stepF_oh (stRight_iff.1 hs).2.2.2.1)
    · rw [onF_stop h0]
      exact h
def tellA (f g : List Ins) (c : Cs) : AV := if fnOk f && (fnOk g && csRight c) then .tup [.int .i64 (tellF f g c), .int .i64 0] else .tup [.int .i64 0, .int .i64 1]
theorem tellS_ifs (x y : Sd) : tellS x y = if (!(begB x.evs y.evs || begB y.evs x.evs)) = true then 1 else if ((haltB x.out && !begB y.evs x.evs) || (haltB y.out && !begB x.evs y.evs)) = true then 2 else if (haltB x.out && (haltB y.out && !decide (x.out = y.out))) = true then 3 else if ((haltB x.out && y.sil) || (haltB y.out && x.sil)) = true then 4 else 0 := by
  unfold tellS
  rw [Bool.not_or]
set_option maxHeartbeats 4000000 in
theorem heap_Same_ok (a b : List Int) (hl : a.length ≤ 9223372036854775806) : Pure Tryd.prog 25 [ints a, ints b] (.bool (decide (a = b))) := by
  intro H
  refine ACalls.go heap_Same.low (by simp) fun hcl => ?_
  unfold ints
  by_cases hlen : a.length = b.length
  case neg =>
    have e1 : ¬ (a.length : Int) = (b.length : Int) := by omega
    have hB : decide (a = b) = false := decide_eq_false fun e => hlen (congrArg List.length e)
    repeat' (first | simp only [seval, evx, beq_self_eq_true, sb, ew, ec, evs_eq, encEv_def, List.map_nil, Nat.mul_one, sideA_eq, trA_eq, encI_def, *] | simp (disch := omega) only [if_pos, if_neg] | refine R.seq ?_ | refine LCB.text ?_ | refine LCB.quiet rfl ?_ | refine R.anyX ?_ | refine R.block ?_ | refine LCB.skip ?_ | refine LCB.exit ?_ | refine LCB.ret ?_ | ((first | refine RetOk.val hcl ?_ | refine Weak.at hcl ?_); simp only [seval, evw, fm, sb, ew, ec, evs_eq, encEv_def, List.map_nil, Nat.mul_one, sideA_eq, trA_eq, encI_def, *]) | ((first | refine LCB.cond (by simp only [seval, evx] <;> rfl) ?_ ?_ | refine wpG_split (by simp only [seval, evx] <;> rfl) ?_ ?_ | refine wxG_split (by simp only [seval, evx] <;> rfl) ?_ ?_) <;> (intro hc; try simp only [seval, nf] at hc)) | refine ACalls.inst ?_ | refine CallX.inst ?_ | (with_reducible refine And.intro ?_ ?_) | exact True.intro)
  have e1 : (a.length : Int) = (b.length : Int) := by omega
  have hs : decide (a = b) = decide (a.drop 0 = b.drop 0) := rfl
  generalize decide (a = b) = B at *
  replace hs := Hold.mk hs
  replace hlen := Hold.mk hlen
  repeat' (first | simp only [seval, evx, beq_self_eq_true, sb, ew, ec, evs_eq, encEv_def, List.map_nil, Nat.mul_one, sideA_eq, trA_eq, encI_def, *] | simp (disch := omega) only [if_pos, if_neg] | refine R.seq ?_ | refine LCB.text ?_ | refine LCB.quiet rfl ?_ | refine R.anyX ?_ | refine R.block ?_ | refine LCB.skip ?_ | refine LCB.exit ?_ | refine LCB.ret ?_ | ((first | refine RetOk.val hcl ?_ | refine Weak.at hcl ?_); simp only [seval, evw, fm, sb, ew, ec, evs_eq, encEv_def, List.map_nil, Nat.mul_one, sideA_eq, trA_eq, encI_def, *]) | ((first | refine LCB.cond (by simp only [seval, evx] <;> rfl) ?_ ?_ | refine wpG_split (by simp only [seval, evx] <;> rfl) ?_ ?_ | refine wxG_split (by simp only [seval, evx] <;> rfl) ?_ ?_) <;> (intro hc; try simp only [seval, nf] at hc)) | refine ACalls.inst ?_ | refine CallX.inst ?_ | (with_reducible refine And.intro ?_ ?_) | exact True.intro)
  clear e1
  refine R.loop (S := Nat) ⟨fun i => [(0, .list (a.map encI)), (1, .list (b.map encI)), (12, .int .i64 (a.length : Int)), (13, .int .i64 (i : Int))], fun i => H ++ [], fun i => i ≤ a.length ∧ decide (a.drop i = b.drop i) = B, fun i => a.length - i⟩ 0 ⟨Nat.zero_le _, hs.of.symm⟩ (Weak.at hcl ?_) ?_
  · have e1 : (a.length : Int) = (b.length : Int) := by have := hlen.of; omega
    simp only [seval, evw, fm, sb, ew, ec, evs_eq, encEv_def, List.map_nil, Nat.mul_one, sideA_eq, trA_eq, encI_def, *]
  rintro i ⟨hi, hq⟩
  simp only at hi hq ⊢
  by_cases hlt : i < a.length
  · have hg := getD_encI hlt
    have hlt2 : i < b.length := by have := hlen.of; omega
    have hg2 := getD_encI hlt2
    have e1 : (i : Int) < (a.length : Int) := by omega
    have e2 : (i : Int) < (b.length : Int) := by omega
    have e4 : IntKind.i64.wrap ((i : Int) + 1) = ((i + 1 : Nat) : Int) := by rw [IntKind.wrap_i64]; omega
    have d1 : a.drop i = a.getD i 0 :: a.drop (i + 1) := by
      rw [List.drop_eq_getElem_cons hlt]
      simp [List.getD, hlt]
    have d2 : b.drop i = b.getD i 0 :: b.drop (i + 1) := by
      rw [List.drop_eq_getElem_cons hlt2]
      simp [List.getD, hlt2]
    rw [d1, d2] at hq
    clear d1 d2
    generalize a.getD i 0 = x at *
    generalize b.getD i 0 = y at *
    by_cases hxy : x = y
    · subst hxy
      have hq2 : decide (a.drop (i + 1) = b.drop (i + 1)) = B := by simpa using hq
      clear hq
      replace hq2 := Hold.mk hq2
      repeat' (first | simp only [seval, evx, beq_self_eq_true, sb, ew, ec, evs_eq, encEv_def, List.map_nil, Nat.mul_one, sideA_eq, trA_eq, encI_def, *] | simp (disch := omega) only [if_pos, if_neg] | refine R.seq ?_ | refine LCB.text ?_ | refine LCB.quiet rfl ?_ | refine R.anyX ?_ | refine R.block ?_ | refine LCB.skip ?_ | refine LCB.exit ?_ | refine LCB.ret ?_ | ((first | refine RetOk.val hcl ?_ | refine Weak.at hcl ?_); simp only [seval, evw, fm, sb, ew, ec, evs_eq, encEv_def, List.map_nil, Nat.mul_one, sideA_eq, trA_eq, encI_def, *]) | ((first | refine LCB.cond (by simp only [seval, evx] <;> rfl) ?_ ?_ | refine wpG_split (by simp only [seval, evx] <;> rfl) ?_ ?_ | refine wxG_split (by simp only [seval, evx] <;> rfl) ?_ ?_) <;> (intro hc; try simp only [seval, nf] at hc)) | refine ACalls.inst ?_ | refine CallX.inst ?_ | (with_reducible refine And.intro ?_ ?_) | exact True.intro)
      refine ⟨i + 1, ⟨hlt, hq2.of⟩, by simp only; omega, Weak.at hcl ?_⟩
      simp only [seval, evw, fm, sb, ew, ec, evs_eq, encEv_def, List.map_nil, Nat.mul_one, sideA_eq, trA_eq, encI_def, *]
    · have hBf : B = false := by rw [← hq]; simp [hxy]
      replace hq := Hold.mk hq
      repeat' (first | simp only [seval, evx, beq_self_eq_true, sb, ew, ec, evs_eq, encEv_def, List.map_nil, Nat.mul_one, sideA_eq, trA_eq, encI_def, *] | simp (disch := omega) only [if_pos, if_neg] | refine R.seq ?_ | refine LCB.text ?_ | refine LCB.quiet rfl ?_ | refine R.anyX ?_ | refine R.block ?_ | refine LCB.skip ?_ | refine LCB.exit ?_ | refine LCB.ret ?_ | ((first | refine RetOk.val hcl ?_ | refine Weak.at hcl ?_); simp only [seval, evw, fm, sb, ew, ec, evs_eq, encEv_def, List.map_nil, Nat.mul_one, sideA_eq, trA_eq, encI_def, *]) | ((first | refine LCB.cond (by simp only [seval, evx] <;> rfl) ?_ ?_ | refine wpG_split (by simp only [seval, evx] <;> rfl) ?_ ?_ | refine wxG_split (by simp only [seval, evx] <;> rfl) ?_ ?_) <;> (intro hc; try simp only [seval, nf] at hc)) | refine ACalls.inst ?_ | refine CallX.inst ?_ | (with_reducible refine And.intro ?_ ?_) | exact True.intro)
  · have hie : i = a.length := by omega
    subst hie
    have e3 : ¬ (a.length : Int) < (a.length : Int) := by omega
    have hB2 : B = true := by
      rw [← hq, List.drop_length, List.drop_of_length_le (by have := hlen.of; omega)]
      simp
    replace hq := Hold.mk hq
    repeat' (first | simp only [seval, evx, beq_self_eq_true, sb, ew, ec, evs_eq, encEv_def, List.map_nil, Nat.mul_one, sideA_eq, trA_eq, encI_def, *] | simp (disch := omega) only [if_pos, if_neg] | refine R.seq ?_ | refine LCB.text ?_ | refine LCB.quiet rfl ?_ | refine R.anyX ?_ | refine R.block ?_ | refine LCB.skip ?_ | refine LCB.exit ?_ | refine LCB.ret ?_ | ((first | refine RetOk.val hcl ?_ | refine Weak.at hcl ?_); simp only [seval, evw, fm, sb, ew, ec, evs_eq, encEv_def, List.map_nil, Nat.mul_one, sideA_eq, trA_eq, encI_def, *]) | ((first | refine LCB.cond (by simp only [seval, evx] <;> rfl) ?_ ?_ | refine wpG_split (by simp only [seval, evx] <;> rfl) ?_ ?_ | refine wxG_split (by simp only [seval, evx] <;> rfl) ?_ ?_) <;> (intro hc; try simp only [seval, nf] at hc)) | refine ACalls.inst ?_ | refine CallX.inst ?_ | (with_reducible refine And.intro ?_ ?_) | exact True.intro)
set_option maxRecDepth 20000 in
set_option maxHeartbeats 16000000 in
theorem differ_Tell_ok (f g : List Ins) (c : Cs) (hR : c.R.length = 8) (hf : f.length ≤ 9223372036854775807) (hg : g.length ≤ 9223372036854775807) : Pure Tryd.prog 10 [encFn f, encFn g, csA c] (tellA f g c) := by
  intro H
  refine ACalls.go differ_Tell.low (by simp) fun hcl => ?_
  have h1 := differ_of_ok f c hR hf
  have h2 := differ_of_ok g c hR hg
  have hil : (ic c.R).length = 8 := by rw [ic_len, hR]
  unfold ofA at h1 h2
  unfold tellA
  rw [csA_eq] at *
  unfold encFn at *
  by_cases hr : (fnOk f && (fnOk g && csRight c)) = true
  case neg =>
    rw [if_neg hr]
    by_cases k1 : (fnOk f && csRight c) = true
    · rw [if_pos k1] at h1
      by_cases k2 : (fnOk g && csRight c) = true
      · exfalso
        simp only [Bool.and_eq_true] at k1 k2 hr
        exact hr ⟨k1.1, k2.1, k1.2⟩
      · rw [if_neg k2, tr0_side] at h2
        generalize silB f (runF f c) = p at *
        generalize runF f c = r at *
        rw [sideA_eq] at h1
        replace h1 := Hold.mk h1
        replace h2 := Hold.mk h2
        replace hr := Hold.mk hr
        replace k1 := Hold.mk k1
        replace k2 := Hold.mk k2
        repeat' (first | simp only [seval, evx, beq_self_eq_true, sb, ew, ec, evs_eq, encEv_def, List.map_nil, Nat.mul_one, sideA_eq, trA_eq, encI_def, *] | simp (disch := omega) only [if_pos, if_neg] | refine R.seq ?_ | refine LCB.text ?_ | refine LCB.quiet rfl ?_ | refine R.anyX ?_ | refine R.block ?_ | refine LCB.skip ?_ | refine LCB.exit ?_ | refine LCB.ret ?_ | ((first | refine RetOk.val hcl ?_ | refine Weak.at hcl ?_); simp only [seval, evw, fm, sb, ew, ec, evs_eq, encEv_def, List.map_nil, Nat.mul_one, sideA_eq, trA_eq, encI_def, *]) | ((first | refine LCB.cond (by simp only [seval, evx] <;> rfl) ?_ ?_ | refine wpG_split (by simp only [seval, evx] <;> rfl) ?_ ?_ | refine wxG_split (by simp only [seval, evx] <;> rfl) ?_ ?_) <;> (intro hc; try simp only [seval, nf] at hc)) | refine ACalls.inst ?_ | refine CallX.inst ?_ | (with_reducible refine And.intro ?_ ?_) | exact True.intro | refine CallX.pure h1.of ?_ | refine ACalls.pure h1.of ?_ | refine CallX.pure h2.of ?_ | refine ACalls.pure h2.of ?_ | refine CallX.pure h3.of ?_ | refine CallX.pure h4.of ?_ | refine CallX.pure h5.of ?_ | refine CallX.pure h6.of ?_ | refine CallX.pure h7.of ?_ | refine CallX.pure h8.of ?_)
    · rw [if_neg k1, tr0_side] at h1
      by_cases k2 : (fnOk g && csRight c) = true
      · rw [if_pos k2] at h2
        generalize silB g (runF g c) = p at *
        generalize runF g c = r at *
        rw [sideA_eq] at h2
        replace h1 := Hold.mk h1
        replace h2 := Hold.mk h2
        replace hr := Hold.mk hr
        replace k1 := Hold.mk k1
        replace k2 := Hold.mk k2
        repeat' (first | simp only [seval, evx, beq_self_eq_true, sb, ew, ec, evs_eq, encEv_def, List.map_nil, Nat.mul_one, sideA_eq, trA_eq, encI_def, *] | simp (disch := omega) only [if_pos, if_neg] | refine R.seq ?_ | refine LCB.text ?_ | refine LCB.quiet rfl ?_ | refine R.anyX ?_ | refine R.block ?_ | refine LCB.skip ?_ | refine LCB.exit ?_ | refine LCB.ret ?_ | ((first | refine RetOk.val hcl ?_ | refine Weak.at hcl ?_); simp only [seval, evw, fm, sb, ew, ec, evs_eq, encEv_def, List.map_nil, Nat.mul_one, sideA_eq, trA_eq, encI_def, *]) | ((first | refine LCB.cond (by simp only [seval, evx] <;> rfl) ?_ ?_ | refine wpG_split (by simp only [seval, evx] <;> rfl) ?_ ?_ | refine wxG_split (by simp only [seval, evx] <;> rfl) ?_ ?_) <;> (intro hc; try simp only [seval, nf] at hc)) | refine ACalls.inst ?_ | refine CallX.inst ?_ | (with_reducible refine And.intro ?_ ?_) | exact True.intro | refine CallX.pure h1.of ?_ | refine ACalls.pure h1.of ?_ | refine CallX.pure h2.of ?_ | refine ACalls.pure h2.of ?_ | refine CallX.pure h3.of ?_ | refine CallX.pure h4.of ?_ | refine CallX.pure h5.of ?_ | refine CallX.pure h6.of ?_ | refine CallX.pure h7.of ?_ | refine CallX.pure h8.of ?_)
      · rw [if_neg k2, tr0_side] at h2
        replace h1 := Hold.mk h1
        replace h2 := Hold.mk h2
        replace hr := Hold.mk hr
        replace k1 := Hold.mk k1
        replace k2 := Hold.mk k2
        repeat' (first | simp only [seval, evx, beq_self_eq_true, sb, ew, ec, evs_eq, encEv_def, List.map_nil, Nat.mul_one, sideA_eq, trA_eq, encI_def, *] | simp (disch := omega) only [if_pos, if_neg] | refine R.seq ?_ | refine LCB.text ?_ | refine LCB.quiet rfl ?_ | refine R.anyX ?_ | refine R.block ?_ | refine LCB.skip ?_ | refine LCB.exit ?_ | refine LCB.ret ?_ | ((first | refine RetOk.val hcl ?_ | refine Weak.at hcl ?_); simp only [seval, evw, fm, sb, ew, ec, evs_eq, encEv_def, List.map_nil, Nat.mul_one, sideA_eq, trA_eq, encI_def, *]) | ((first | refine LCB.cond (by simp only [seval, evx] <;> rfl) ?_ ?_ | refine wpG_split (by simp only [seval, evx] <;> rfl) ?_ ?_ | refine wxG_split (by simp only [seval, evx] <;> rfl) ?_ ?_) <;> (intro hc; try simp only [seval, nf] at hc)) | refine ACalls.inst ?_ | refine CallX.inst ?_ | (with_reducible refine And.intro ?_ ?_) | exact True.intro | refine CallX.pure h1.of ?_ | refine ACalls.pure h1.of ?_ | refine CallX.pure h2.of ?_ | refine ACalls.pure h2.of ?_ | refine CallX.pure h3.of ?_ | refine CallX.pure h4.of ?_ | refine CallX.pure h5.of ?_ | refine CallX.pure h6.of ?_ | refine CallX.pure h7.of ?_ | refine CallX.pure h8.of ?_)
  rw [if_pos hr]
  simp only [Bool.and_eq_true] at hr
  obtain ⟨r1, r2, r3⟩ := hr
  rw [r1, r3, if_pos (show (true && true) = true from rfl)] at h1
  rw [r2, r3, if_pos (show (true && true) = true from rfl)] at h2
  obtain ⟨q1, q2, q3, q4⟩ := csRight_iff.1 r3
  have la : (runF f c).1.evs.length ≤ 9223372036854775806 := by
    have := onF_evlen (f := f) (ans := c.ans) c.fuel.toNat (beginS c) tr0
    have e : tr0.evs.length = 0 := rfl
    have e2 : onF f c.ans c.fuel.toNat (beginS c) tr0 = runF f c := rfl
    rw [e2, e] at this
    omega
  have lb : (runF g c).1.evs.length ≤ 9223372036854775806 := by
    have := onF_evlen (f := g) (ans := c.ans) c.fuel.toNat (beginS c) tr0
    have e : tr0.evs.length = 0 := rfl
    have e2 : onF g c.ans c.fuel.toNat (beginS c) tr0 = runF g c := rfl
    rw [e2, e] at this
    omega
  have lh : (runF f c).1.out.heap.length ≤ 9223372036854775806 := Nat.le_trans (onF_oh _ _ _ (beginS_right r1 r3 (fnOk_iff.1 r1).2.1) (by simp [tr0, out0])) (by decide)
  have hT : tellF f g c = tellS (sdOf f (runF f c)) (sdOf g (runF g c)) := rfl
  rw [hT, tellS_ifs]
  unfold sdOf
  simp only
  generalize silB f (runF f c) = p at *
  generalize silB g (runF g c) = q at *
  generalize runF f c = ra at *
  generalize runF g c = rb at *
  obtain ⟨a, ua⟩ := ra
  obtain ⟨b, ub⟩ := rb
  simp only at h1 h2 la lb lh ⊢
  clear hT r1 r2 r3 q1 q2 q3 q4
  have h3 := differ_Halted_ok a
  have h4 := differ_Halted_ok b
  have h6 := differ_either_ok (differ_Tell_1_ok a b p q la) (differ_Tell_1_ok b a q p lb)
  have h7 := differ_either_ok (differ_Tell_2_ok a b p q lb) (differ_Tell_2_ok b a q p la)
  have h8 := differ_either_ok (differ_Tell_3_ok a b p q) (differ_Tell_3_ok b a q p)
  have hdo := out_dec3 a.out b.out
  have h5 := heap_Same_ok a.out.heap b.out.heap lh
  rw [hdo]
  clear hdo la lb lh
  rw [trA_eq] at h3 h4
  rw [sideA_eq, sideA_eq] at h6 h7 h8
  rw [sideA_eq] at h1 h2
  generalize (begB a.evs b.evs || begB b.evs a.evs) = X1 at *
  generalize ((haltB a.out && !begB b.evs a.evs) || (haltB b.out && !begB a.evs b.evs)) = X2 at *
  generalize ((haltB a.out && q) || (haltB b.out && p)) = X4 at *
  obtain ⟨aev, ⟨ah, av, ahp⟩, ast, awk⟩ := a
  obtain ⟨bev, ⟨bh, bv, bhp⟩, bst, bwk⟩ := b
  simp only at h1 h2 h3 h4 h5 h6 h7 h8 ⊢
  unfold ints at h5
  generalize haltB ⟨ah, av, ahp⟩ = HA at *
  generalize haltB ⟨bh, bv, bhp⟩ = HB at *
  replace h1 := Hold.mk h1
  replace h2 := Hold.mk h2
  replace h3 := Hold.mk h3
  replace h4 := Hold.mk h4
  replace h5 := Hold.mk h5
  replace h6 := Hold.mk h6
  replace h7 := Hold.mk h7
  replace h8 := Hold.mk h8
  replace hR := Hold.mk hR
  (refine R.seq ?_; refine LCB.text ?_; repeat' (first | simp only [seval, evx, beq_self_eq_true, sb, ew, ec, evs_eq, encEv_def, List.map_nil, Nat.mul_one, sideA_eq, trA_eq, encI_def, *] | simp (disch := omega) only [if_pos, if_neg]))
  refine R.cut [(0, .list (f.map encIns)), (1, .list (g.map encIns)), (5, .ptr H.length 1 0 0), (8, .ptr (H.length + 1) 1 0 0), (9, .int .i64 0)] (H ++ [.vec 11 [ic c.R ++ [.list (c.heap.map encI), .list (c.ans.map encI), .int .i64 c.fuel]], .vec 7 [[.list (aev.map encEv), .int .i64 ah, .int .i64 av, .list (ahp.map encI), .int .i64 ast, .int .i64 awk, .bool p]]]) ?_ ?_
  · repeat' (first | simp only [seval, evx, beq_self_eq_true, sb, ew, ec, evs_eq, encEv_def, List.map_nil, Nat.mul_one, sideA_eq, trA_eq, encI_def, *] | simp (disch := omega) only [if_pos, if_neg] | refine R.seq ?_ | refine LCB.text ?_ | refine LCB.quiet rfl ?_ | refine R.anyX ?_ | refine R.block ?_ | refine LCB.skip ?_ | refine LCB.exit ?_ | refine LCB.ret ?_ | ((first | refine RetOk.val hcl ?_ | refine Weak.at hcl ?_); simp only [seval, evw, fm, sb, ew, ec, evs_eq, encEv_def, List.map_nil, Nat.mul_one, sideA_eq, trA_eq, encI_def, *]) | ((first | refine LCB.cond (by simp only [seval, evx] <;> rfl) ?_ ?_ | refine wpG_split (by simp only [seval, evx] <;> rfl) ?_ ?_ | refine wxG_split (by simp only [seval, evx] <;> rfl) ?_ ?_) <;> (intro hc; try simp only [seval, nf] at hc)) | refine ACalls.inst ?_ | refine CallX.inst ?_ | (with_reducible refine And.intro ?_ ?_) | exact True.intro | refine CallX.pure h1.of ?_ | refine ACalls.pure h1.of ?_ | refine CallX.pure h2.of ?_ | refine ACalls.pure h2.of ?_ | refine CallX.pure h3.of ?_ | refine CallX.pure h4.of ?_ | refine CallX.pure h5.of ?_ | refine CallX.pure h6.of ?_ | refine CallX.pure h7.of ?_ | refine CallX.pure h8.of ?_)
  refine R.cut [(5, .ptr H.length 1 0 0), (8, .ptr (H.length + 1) 1 0 0), (9, .int .i64 0), (10, .ptr (H.length + 2) 1 0 0), (11, .int .i64 0)] (H ++ [.vec 11 [ic c.R ++ [.list (c.heap.map encI), .list (c.ans.map encI), .int .i64 c.fuel]], .vec 7 [[.list (aev.map encEv), .int .i64 ah, .int .i64 av, .list (ahp.map encI), .int .i64 ast, .int .i64 awk, .bool p]], .vec 7 [[.list (bev.map encEv), .int .i64 bh, .int .i64 bv, .list (bhp.map encI), .int .i64 bst, .int .i64 bwk, .bool q]]]) ?_ ?_
  · repeat' (first | simp only [seval, evx, beq_self_eq_true, sb, ew, ec, evs_eq, encEv_def, List.map_nil, Nat.mul_one, sideA_eq, trA_eq, encI_def, *] | simp (disch := omega) only [if_pos, if_neg] | refine R.seq ?_ | refine LCB.text ?_ | refine LCB.quiet rfl ?_ | refine R.anyX ?_ | refine R.block ?_ | refine LCB.skip ?_ | refine LCB.exit ?_ | refine LCB.ret ?_ | ((first | refine RetOk.val hcl ?_ | refine Weak.at hcl ?_); simp only [seval, evw, fm, sb, ew, ec, evs_eq, encEv_def, List.map_nil, Nat.mul_one, sideA_eq, trA_eq, encI_def, *]) | ((first | refine LCB.cond (by simp only [seval, evx] <;> rfl) ?_ ?_ | refine wpG_split (by simp only [seval, evx] <;> rfl) ?_ ?_ | refine wxG_split (by simp only [seval, evx] <;> rfl) ?_ ?_) <;> (intro hc; try simp only [seval, nf] at hc)) | refine ACalls.inst ?_ | refine CallX.inst ?_ | (with_reducible refine And.intro ?_ ?_) | exact True.intro | refine CallX.pure h1.of ?_ | refine ACalls.pure h1.of ?_ | refine CallX.pure h2.of ?_ | refine ACalls.pure h2.of ?_ | refine CallX.pure h3.of ?_ | refine CallX.pure h4.of ?_ | refine CallX.pure h5.of ?_ | refine CallX.pure h6.of ?_ | refine CallX.pure h7.of ?_ | refine CallX.pure h8.of ?_)
  refine R.cut [(8, .ptr (H.length + 1) 1 0 0), (10, .ptr (H.length + 2) 1 0 0)] (H ++ [.vec 11 [ic c.R ++ [.list (c.heap.map encI), .list (c.ans.map encI), .int .i64 c.fuel]], .vec 7 [[.list (aev.map encEv), .int .i64 ah, .int .i64 av, .list (ahp.map encI), .int .i64 ast, .int .i64 awk, .bool p]], .vec 7 [[.list (bev.map encEv), .int .i64 bh, .int .i64 bv, .list (bhp.map encI), .int .i64 bst, .int .i64 bwk, .bool q]]]) ?_ ?_
  · repeat' (first | simp only [seval, evx, beq_self_eq_true, sb, ew, ec, evs_eq, encEv_def, List.map_nil, Nat.mul_one, sideA_eq, trA_eq, encI_def, *] | simp (disch := omega) only [if_pos, if_neg] | refine R.seq ?_ | refine LCB.text ?_ | refine LCB.quiet rfl ?_ | refine R.anyX ?_ | refine R.block ?_ | refine LCB.skip ?_ | refine LCB.exit ?_ | refine LCB.ret ?_ | ((first | refine RetOk.val hcl ?_ | refine Weak.at hcl ?_); simp only [seval, evw, fm, sb, ew, ec, evs_eq, encEv_def, List.map_nil, Nat.mul_one, sideA_eq, trA_eq, encI_def, *]) | ((first | refine LCB.cond (by simp only [seval, evx] <;> rfl) ?_ ?_ | refine wpG_split (by simp only [seval, evx] <;> rfl) ?_ ?_ | refine wxG_split (by simp only [seval, evx] <;> rfl) ?_ ?_) <;> (intro hc; try simp only [seval, nf] at hc)) | refine ACalls.inst ?_ | refine CallX.inst ?_ | (with_reducible refine And.intro ?_ ?_) | exact True.intro | refine CallX.pure h1.of ?_ | refine ACalls.pure h1.of ?_ | refine CallX.pure h2.of ?_ | refine ACalls.pure h2.of ?_ | refine CallX.pure h3.of ?_ | refine CallX.pure h4.of ?_ | refine CallX.pure h5.of ?_ | refine CallX.pure h6.of ?_ | refine CallX.pure h7.of ?_ | refine CallX.pure h8.of ?_)
  clear h1 h2
  obtain ⟨X3, hX3⟩ : ∃ X3, (HA && (HB && !(decide (ah = bh) && (decide (av = bv) && decide (ahp = bhp))))) = X3 := ⟨_, rfl⟩
  rw [hX3]
  refine R.cut [(12, .sl 1 (H.length + 3) 5 0 5)] (H ++ [.vec 11 [ic c.R ++ [.list (c.heap.map encI), .list (c.ans.map encI), .int .i64 c.fuel]], .vec 7 [[.list (aev.map encEv), .int .i64 ah, .int .i64 av, .list (ahp.map encI), .int .i64 ast, .int .i64 awk, .bool p]], .vec 7 [[.list (bev.map encEv), .int .i64 bh, .int .i64 bv, .list (bhp.map encI), .int .i64 bst, .int .i64 bwk, .bool q]], .vec 1 [[.bool false], [.bool (!X1)], [.bool X2], [.bool X3], [.bool X4]]]) ?_ ?_
  · cases HA
    · have e3 : X3 = false := hX3.symm
      subst e3
      clear hX3 h4
      repeat' (first | simp only [seval, evx, beq_self_eq_true, sb, ew, ec, evs_eq, encEv_def, List.map_nil, Nat.mul_one, sideA_eq, trA_eq, encI_def, *] | simp (disch := omega) only [if_pos, if_neg] | refine R.seq ?_ | refine LCB.text ?_ | refine LCB.quiet rfl ?_ | refine R.anyX ?_ | refine R.block ?_ | refine LCB.skip ?_ | refine LCB.exit ?_ | refine LCB.ret ?_ | ((first | refine RetOk.val hcl ?_ | refine Weak.at hcl ?_); simp only [seval, evw, fm, sb, ew, ec, evs_eq, encEv_def, List.map_nil, Nat.mul_one, sideA_eq, trA_eq, encI_def, *]) | ((first | refine LCB.cond (by simp only [seval, evx] <;> rfl) ?_ ?_ | refine wpG_split (by simp only [seval, evx] <;> rfl) ?_ ?_ | refine wxG_split (by simp only [seval, evx] <;> rfl) ?_ ?_) <;> (intro hc; try simp only [seval, nf] at hc)) | refine ACalls.inst ?_ | refine CallX.inst ?_ | (with_reducible refine And.intro ?_ ?_) | exact True.intro | refine CallX.pure h1.of ?_ | refine ACalls.pure h1.of ?_ | refine CallX.pure h2.of ?_ | refine ACalls.pure h2.of ?_ | refine CallX.pure h3.of ?_ | refine CallX.pure h4.of ?_ | refine CallX.pure h5.of ?_ | refine CallX.pure h6.of ?_ | refine CallX.pure h7.of ?_ | refine CallX.pure h8.of ?_)
    · cases HB
      · have e3 : X3 = false := hX3.symm
        subst e3
        clear hX3
        repeat' (first | simp only [seval, evx, beq_self_eq_true, sb, ew, ec, evs_eq, encEv_def, List.map_nil, Nat.mul_one, sideA_eq, trA_eq, encI_def, *] | simp (disch := omega) only [if_pos, if_neg] | refine R.seq ?_ | refine LCB.text ?_ | refine LCB.quiet rfl ?_ | refine R.anyX ?_ | refine R.block ?_ | refine LCB.skip ?_ | refine LCB.exit ?_ | refine LCB.ret ?_ | ((first | refine RetOk.val hcl ?_ | refine Weak.at hcl ?_); simp only [seval, evw, fm, sb, ew, ec, evs_eq, encEv_def, List.map_nil, Nat.mul_one, sideA_eq, trA_eq, encI_def, *]) | ((first | refine LCB.cond (by simp only [seval, evx] <;> rfl) ?_ ?_ | refine wpG_split (by simp only [seval, evx] <;> rfl) ?_ ?_ | refine wxG_split (by simp only [seval, evx] <;> rfl) ?_ ?_) <;> (intro hc; try simp only [seval, nf] at hc)) | refine ACalls.inst ?_ | refine CallX.inst ?_ | (with_reducible refine And.intro ?_ ?_) | exact True.intro | refine CallX.pure h1.of ?_ | refine ACalls.pure h1.of ?_ | refine CallX.pure h2.of ?_ | refine ACalls.pure h2.of ?_ | refine CallX.pure h3.of ?_ | refine CallX.pure h4.of ?_ | refine CallX.pure h5.of ?_ | refine CallX.pure h6.of ?_ | refine CallX.pure h7.of ?_ | refine CallX.pure h8.of ?_)
      · rw [Bool.true_and, Bool.true_and] at hX3
        by_cases c1 : ah = bh
        · by_cases c2 : av = bv
          · rw [decide_eq_true c1, decide_eq_true c2, Bool.true_and, Bool.true_and] at hX3
            replace hX3 := Hold.mk hX3
            have e3 : (!decide (ahp = bhp)) = X3 := hX3.of
            subst c1
            subst c2
            have d1 : decide (ah = ah) = true := by simp
            have d2 : decide (av = av) = true := by simp
            repeat' (first | simp only [seval, evx, beq_self_eq_true, sb, ew, ec, evs_eq, encEv_def, List.map_nil, Nat.mul_one, sideA_eq, trA_eq, encI_def, *] | simp (disch := omega) only [if_pos, if_neg] | refine R.seq ?_ | refine LCB.text ?_ | refine LCB.quiet rfl ?_ | refine R.anyX ?_ | refine R.block ?_ | refine LCB.skip ?_ | refine LCB.exit ?_ | refine LCB.ret ?_ | ((first | refine RetOk.val hcl ?_ | refine Weak.at hcl ?_); simp only [seval, evw, fm, sb, ew, ec, evs_eq, encEv_def, List.map_nil, Nat.mul_one, sideA_eq, trA_eq, encI_def, *]) | ((first | refine LCB.cond (by simp only [seval, evx] <;> rfl) ?_ ?_ | refine wpG_split (by simp only [seval, evx] <;> rfl) ?_ ?_ | refine wxG_split (by simp only [seval, evx] <;> rfl) ?_ ?_) <;> (intro hc; try simp only [seval, nf] at hc)) | refine ACalls.inst ?_ | refine CallX.inst ?_ | (with_reducible refine And.intro ?_ ?_) | exact True.intro | refine CallX.pure h1.of ?_ | refine ACalls.pure h1.of ?_ | refine CallX.pure h2.of ?_ | refine ACalls.pure h2.of ?_ | refine CallX.pure h3.of ?_ | refine CallX.pure h4.of ?_ | refine CallX.pure h5.of ?_ | refine CallX.pure h6.of ?_ | refine CallX.pure h7.of ?_ | refine CallX.pure h8.of ?_)
          · rw [decide_eq_true c1, decide_eq_false c2, Bool.true_and, Bool.false_and] at hX3
            have e3 : X3 = true := hX3.symm
            subst e3
            clear hX3
            subst c1
            have d1 : decide (ah = ah) = true := by simp
            repeat' (first | simp only [seval, evx, beq_self_eq_true, sb, ew, ec, evs_eq, encEv_def, List.map_nil, Nat.mul_one, sideA_eq, trA_eq, encI_def, *] | simp (disch := omega) only [if_pos, if_neg] | refine R.seq ?_ | refine LCB.text ?_ | refine LCB.quiet rfl ?_ | refine R.anyX ?_ | refine R.block ?_ | refine LCB.skip ?_ | refine LCB.exit ?_ | refine LCB.ret ?_ | ((first | refine RetOk.val hcl ?_ | refine Weak.at hcl ?_); simp only [seval, evw, fm, sb, ew, ec, evs_eq, encEv_def, List.map_nil, Nat.mul_one, sideA_eq, trA_eq, encI_def, *]) | ((first | refine LCB.cond (by simp only [seval, evx] <;> rfl) ?_ ?_ | refine wpG_split (by simp only [seval, evx] <;> rfl) ?_ ?_ | refine wxG_split (by simp only [seval, evx] <;> rfl) ?_ ?_) <;> (intro hc; try simp only [seval, nf] at hc)) | refine ACalls.inst ?_ | refine CallX.inst ?_ | (with_reducible refine And.intro ?_ ?_) | exact True.intro | refine CallX.pure h1.of ?_ | refine ACalls.pure h1.of ?_ | refine CallX.pure h2.of ?_ | refine ACalls.pure h2.of ?_ | refine CallX.pure h3.of ?_ | refine CallX.pure h4.of ?_ | refine CallX.pure h5.of ?_ | refine CallX.pure h6.of ?_ | refine CallX.pure h7.of ?_ | refine CallX.pure h8.of ?_)
        · rw [decide_eq_false c1, Bool.false_and] at hX3
          have e3 : X3 = true := hX3.symm
          subst e3
          clear hX3
          repeat' (first | simp only [seval, evx, beq_self_eq_true, sb, ew, ec, evs_eq, encEv_def, List.map_nil, Nat.mul_one, sideA_eq, trA_eq, encI_def, *] | simp (disch := omega) only [if_pos, if_neg] | refine R.seq ?_ | refine LCB.text ?_ | refine LCB.quiet rfl ?_ | refine R.anyX ?_ | refine R.block ?_ | refine LCB.skip ?_ | refine LCB.exit ?_ | refine LCB.ret ?_ | ((first | refine RetOk.val hcl ?_ | refine Weak.at hcl ?_); simp only [seval, evw, fm, sb, ew, ec, evs_eq, encEv_def, List.map_nil, Nat.mul_one, sideA_eq, trA_eq, encI_def, *]) | ((first | refine LCB.cond (by simp only [seval, evx] <;> rfl) ?_ ?_ | refine wpG_split (by simp only [seval, evx] <;> rfl) ?_ ?_ | refine wxG_split (by simp only [seval, evx] <;> rfl) ?_ ?_) <;> (intro hc; try simp only [seval, nf] at hc)) | refine ACalls.inst ?_ | refine CallX.inst ?_ | (with_reducible refine And.intro ?_ ?_) | exact True.intro | refine CallX.pure h1.of ?_ | refine ACalls.pure h1.of ?_ | refine CallX.pure h2.of ?_ | refine ACalls.pure h2.of ?_ | refine CallX.pure h3.of ?_ | refine CallX.pure h4.of ?_ | refine CallX.pure h5.of ?_ | refine CallX.pure h6.of ?_ | refine CallX.pure h7.of ?_ | refine CallX.pure h8.of ?_)
  clear h3 h4 h5 h6 h7 h8 hX3
  generalize hres : (if (!X1) = true then (1 : Int) else if X2 = true then 2 else if X3 = true then 3 else if X4 = true then 4 else 0) = RES
  replace hres := Hold.mk hres
  have cO1 : ∀ m, (AObj.vec 11 [ic c.R ++ [.list (c.heap.map encI), .list (c.ans.map encI), .int .i64 c.fuel]]).clean m := fun m => by
    simp only [seval, evw, fm, sb, ew, ec, evs_eq, encEv_def, List.map_nil, Nat.mul_one, sideA_eq, trA_eq, encI_def, *]
  have cO2 : ∀ m, (AObj.vec 7 [[.list (aev.map encEv), .int .i64 ah, .int .i64 av, .list (ahp.map encI), .int .i64 ast, .int .i64 awk, .bool p]]).clean m := fun m => by
    simp only [seval, evw, fm, sb, ew, ec, evs_eq, encEv_def, List.map_nil, Nat.mul_one, sideA_eq, trA_eq, encI_def, *]
  have cO3 : ∀ m, (AObj.vec 7 [[.list (bev.map encEv), .int .i64 bh, .int .i64 bv, .list (bhp.map encI), .int .i64 bst, .int .i64 bwk, .bool q]]).clean m := fun m => by
    simp only [seval, evw, fm, sb, ew, ec, evs_eq, encEv_def, List.map_nil, Nat.mul_one, sideA_eq, trA_eq, encI_def, *]
  generalize AObj.vec 11 [ic c.R ++ [.list (c.heap.map encI), .list (c.ans.map encI), .int .i64 c.fuel]] = O1 at *
  generalize AObj.vec 7 [[.list (aev.map encEv), .int .i64 ah, .int .i64 av, .list (ahp.map encI), .int .i64 ast, .int .i64 awk, .bool p]] = O2 at *
  generalize AObj.vec 7 [[.list (bev.map encEv), .int .i64 bh, .int .i64 bv, .list (bhp.map encI), .int .i64 bst, .int .i64 bwk, .bool q]] = O3 at *
  have w1 : IntKind.i64.wrap 1 = 1 := by decide
  have w2 : IntKind.i64.wrap 2 = 2 := by decide
  have w3 : IntKind.i64.wrap 3 = 3 := by decide
  have w4 : IntKind.i64.wrap 4 = 4 := by decide
  have w5 : IntKind.i64.wrap 5 = 5 := by decide
  clear hil
  repeat' (first | simp only [seval, evx, beq_self_eq_true, sb, ew, ec, evs_eq, encEv_def, List.map_nil, Nat.mul_one, sideA_eq, trA_eq, encI_def, *] | simp (disch := omega) only [if_pos, if_neg] | refine R.seq ?_ | refine LCB.text ?_ | refine LCB.quiet rfl ?_ | refine R.anyX ?_ | refine R.block ?_ | refine LCB.skip ?_ | refine LCB.exit ?_ | refine LCB.ret ?_ | ((first | refine RetOk.val hcl ?_ | refine Weak.at hcl ?_); simp only [seval, evw, fm, sb, ew, ec, evs_eq, encEv_def, List.map_nil, Nat.mul_one, sideA_eq, trA_eq, encI_def, *]) | ((first | refine LCB.cond (by simp only [seval, evx] <;> rfl) ?_ ?_ | refine wpG_split (by simp only [seval, evx] <;> rfl) ?_ ?_ | refine wxG_split (by simp only [seval, evx] <;> rfl) ?_ ?_) <;> (intro hc; try simp only [seval, nf] at hc)) | refine ACalls.inst ?_ | refine CallX.inst ?_ | (with_reducible refine And.intro ?_ ?_) | exact True.intro | refine CallX.pure h1.of ?_ | refine ACalls.pure h1.of ?_ | refine CallX.pure h2.of ?_ | refine ACalls.pure h2.of ?_ | refine CallX.pure h3.of ?_ | refine CallX.pure h4.of ?_ | refine CallX.pure h5.of ?_ | refine CallX.pure h6.of ?_ | refine CallX.pure h7.of ?_ | refine CallX.pure h8.of ?_)
  refine R.loop (S := Nat) ⟨fun i => [(86, .sl 1 (H.length + 3) 5 0 5), (87, .int .i64 5), (88, .int .i64 (i : Int))], fun i => H ++ [O1, O2, O3, .vec 1 [[.bool false], [.bool (!X1)], [.bool X2], [.bool X3], [.bool X4]]],
    fun i => i ≤ 5 ∧ (2 ≤ i → X1 = true) ∧ (3 ≤ i → X2 = false) ∧ (4 ≤ i → X3 = false) ∧ (5 ≤ i → X4 = false), fun i => 5 - i⟩ 0 ⟨by omega, by omega, by omega, by omega, by omega⟩ (Weak.at hcl ?_) ?_
  · simp only [seval, evw, fm, sb, ew, ec, evs_eq, encEv_def, List.map_nil, Nat.mul_one, sideA_eq, trA_eq, encI_def, *]
  rintro i ⟨hi, q1, q2, q3, q4⟩
  simp only at hi q1 q2 q3 q4 ⊢
  have hi6 : i = 0 ∨ i = 1 ∨ i = 2 ∨ i = 3 ∨ i = 4 ∨ i = 5 := by omega
  rcases hi6 with rfl | rfl | rfl | rfl | rfl | rfl
  · clear q1 q2 q3 q4
    repeat' (first | simp only [seval, evx, beq_self_eq_true, sb, ew, ec, evs_eq, encEv_def, List.map_nil, Nat.mul_one, sideA_eq, trA_eq, encI_def, *] | simp (disch := omega) only [if_pos, if_neg] | refine R.seq ?_ | refine LCB.text ?_ | refine LCB.quiet rfl ?_ | refine R.anyX ?_ | refine R.block ?_ | refine LCB.skip ?_ | refine LCB.exit ?_ | refine LCB.ret ?_ | ((first | refine RetOk.val hcl ?_ | refine Weak.at hcl ?_); simp only [seval, evw, fm, sb, ew, ec, evs_eq, encEv_def, List.map_nil, Nat.mul_one, sideA_eq, trA_eq, encI_def, *]) | ((first | refine LCB.cond (by simp only [seval, evx] <;> rfl) ?_ ?_ | refine wpG_split (by simp only [seval, evx] <;> rfl) ?_ ?_ | refine wxG_split (by simp only [seval, evx] <;> rfl) ?_ ?_) <;> (intro hc; try simp only [seval, nf] at hc)) | refine ACalls.inst ?_ | refine CallX.inst ?_ | (with_reducible refine And.intro ?_ ?_) | exact True.intro | refine CallX.pure h1.of ?_ | refine ACalls.pure h1.of ?_ | refine CallX.pure h2.of ?_ | refine ACalls.pure h2.of ?_ | refine CallX.pure h3.of ?_ | refine CallX.pure h4.of ?_ | refine CallX.pure h5.of ?_ | refine CallX.pure h6.of ?_ | refine CallX.pure h7.of ?_ | refine CallX.pure h8.of ?_)
    refine ⟨1, by simp, by simp only; omega, Weak.at hcl ?_⟩
    simp only [seval, evw, fm, sb, ew, ec, evs_eq, encEv_def, List.map_nil, Nat.mul_one, sideA_eq, trA_eq, encI_def, *]
  · clear q1 q2 q3 q4
    cases X1
    · have hr : RES = 1 := hres.of.symm
      repeat' (first | simp only [seval, evx, beq_self_eq_true, sb, ew, ec, evs_eq, encEv_def, List.map_nil, Nat.mul_one, sideA_eq, trA_eq, encI_def, *] | simp (disch := omega) only [if_pos, if_neg] | refine R.seq ?_ | refine LCB.text ?_ | refine LCB.quiet rfl ?_ | refine R.anyX ?_ | refine R.block ?_ | refine LCB.skip ?_ | refine LCB.exit ?_ | refine LCB.ret ?_ | ((first | refine RetOk.val hcl ?_ | refine Weak.at hcl ?_); simp only [seval, evw, fm, sb, ew, ec, evs_eq, encEv_def, List.map_nil, Nat.mul_one, sideA_eq, trA_eq, encI_def, *]) | ((first | refine LCB.cond (by simp only [seval, evx] <;> rfl) ?_ ?_ | refine wpG_split (by simp only [seval, evx] <;> rfl) ?_ ?_ | refine wxG_split (by simp only [seval, evx] <;> rfl) ?_ ?_) <;> (intro hc; try simp only [seval, nf] at hc)) | refine ACalls.inst ?_ | refine CallX.inst ?_ | (with_reducible refine And.intro ?_ ?_) | exact True.intro | refine CallX.pure h1.of ?_ | refine ACalls.pure h1.of ?_ | refine CallX.pure h2.of ?_ | refine ACalls.pure h2.of ?_ | refine CallX.pure h3.of ?_ | refine CallX.pure h4.of ?_ | refine CallX.pure h5.of ?_ | refine CallX.pure h6.of ?_ | refine CallX.pure h7.of ?_ | refine CallX.pure h8.of ?_)
    · repeat' (first | simp only [seval, evx, beq_self_eq_true, sb, ew, ec, evs_eq, encEv_def, List.map_nil, Nat.mul_one, sideA_eq, trA_eq, encI_def, *] | simp (disch := omega) only [if_pos, if_neg] | refine R.seq ?_ | refine LCB.text ?_ | refine LCB.quiet rfl ?_ | refine R.anyX ?_ | refine R.block ?_ | refine LCB.skip ?_ | refine LCB.exit ?_ | refine LCB.ret ?_ | ((first | refine RetOk.val hcl ?_ | refine Weak.at hcl ?_); simp only [seval, evw, fm, sb, ew, ec, evs_eq, encEv_def, List.map_nil, Nat.mul_one, sideA_eq, trA_eq, encI_def, *]) | ((first | refine LCB.cond (by simp only [seval, evx] <;> rfl) ?_ ?_ | refine wpG_split (by simp only [seval, evx] <;> rfl) ?_ ?_ | refine wxG_split (by simp only [seval, evx] <;> rfl) ?_ ?_) <;> (intro hc; try simp only [seval, nf] at hc)) | refine ACalls.inst ?_ | refine CallX.inst ?_ | (with_reducible refine And.intro ?_ ?_) | exact True.intro | refine CallX.pure h1.of ?_ | refine ACalls.pure h1.of ?_ | refine CallX.pure h2.of ?_ | refine ACalls.pure h2.of ?_ | refine CallX.pure h3.of ?_ | refine CallX.pure h4.of ?_ | refine CallX.pure h5.of ?_ | refine CallX.pure h6.of ?_ | refine CallX.pure h7.of ?_ | refine CallX.pure h8.of ?_)
      refine ⟨2, by simp, by simp only; omega, Weak.at hcl ?_⟩
      simp only [seval, evw, fm, sb, ew, ec, evs_eq, encEv_def, List.map_nil, Nat.mul_one, sideA_eq, trA_eq, encI_def, *]
  · have q1 := q1 (by omega)
    subst q1
    clear q2 q3 q4
    cases X2
    · repeat' (first | simp only [seval, evx, beq_self_eq_true, sb, ew, ec, evs_eq, encEv_def, List.map_nil, Nat.mul_one, sideA_eq, trA_eq, encI_def, *] | simp (disch := omega) only [if_pos, if_neg] | refine R.seq ?_ | refine LCB.text ?_ | refine LCB.quiet rfl ?_ | refine R.anyX ?_ | refine R.block ?_ | refine LCB.skip ?_ | refine LCB.exit ?_ | refine LCB.ret ?_ | ((first | refine RetOk.val hcl ?_ | refine Weak.at hcl ?_); simp only [seval, evw, fm, sb, ew, ec, evs_eq, encEv_def, List.map_nil, Nat.mul_one, sideA_eq, trA_eq, encI_def, *]) | ((first | refine LCB.cond (by simp only [seval, evx] <;> rfl) ?_ ?_ | refine wpG_split (by simp only [seval, evx] <;> rfl) ?_ ?_ | refine wxG_split (by simp only [seval, evx] <;> rfl) ?_ ?_) <;> (intro hc; try simp only [seval, nf] at hc)) | refine ACalls.inst ?_ | refine CallX.inst ?_ | (with_reducible refine And.intro ?_ ?_) | exact True.intro | refine CallX.pure h1.of ?_ | refine ACalls.pure h1.of ?_ | refine CallX.pure h2.of ?_ | refine ACalls.pure h2.of ?_ | refine CallX.pure h3.of ?_ | refine CallX.pure h4.of ?_ | refine CallX.pure h5.of ?_ | refine CallX.pure h6.of ?_ | refine CallX.pure h7.of ?_ | refine CallX.pure h8.of ?_)
      refine ⟨3, by simp, by simp only; omega, Weak.at hcl ?_⟩
      simp only [seval, evw, fm, sb, ew, ec, evs_eq, encEv_def, List.map_nil, Nat.mul_one, sideA_eq, trA_eq, encI_def, *]
    · have hr : RES = 2 := hres.of.symm
      repeat' (first | simp only [seval, evx, beq_self_eq_true, sb, ew, ec, evs_eq, encEv_def, List.map_nil, Nat.mul_one, sideA_eq, trA_eq, encI_def, *] | simp (disch := omega) only [if_pos, if_neg] | refine R.seq ?_ | refine LCB.text ?_ | refine LCB.quiet rfl ?_ | refine R.anyX ?_ | refine R.block ?_ | refine LCB.skip ?_ | refine LCB.exit ?_ | refine LCB.ret ?_ | ((first | refine RetOk.val hcl ?_ | refine Weak.at hcl ?_); simp only [seval, evw, fm, sb, ew, ec, evs_eq, encEv_def, List.map_nil, Nat.mul_one, sideA_eq, trA_eq, encI_def, *]) | ((first | refine LCB.cond (by simp only [seval, evx] <;> rfl) ?_ ?_ | refine wpG_split (by simp only [seval, evx] <;> rfl) ?_ ?_ | refine wxG_split (by simp only [seval, evx] <;> rfl) ?_ ?_) <;> (intro hc; try simp only [seval, nf] at hc)) | refine ACalls.inst ?_ | refine CallX.inst ?_ | (with_reducible refine And.intro ?_ ?_) | exact True.intro | refine CallX.pure h1.of ?_ | refine ACalls.pure h1.of ?_ | refine CallX.pure h2.of ?_ | refine ACalls.pure h2.of ?_ | refine CallX.pure h3.of ?_ | refine CallX.pure h4.of ?_ | refine CallX.pure h5.of ?_ | refine CallX.pure h6.of ?_ | refine CallX.pure h7.of ?_ | refine CallX.pure h8.of ?_)
  · have q1 := q1 (by omega)
    have q2 := q2 (by omega)
    subst q1 q2
    clear q3 q4
    cases X3
    · repeat' (first | simp only [seval, evx, beq_self_eq_true, sb, ew, ec, evs_eq, encEv_def, List.map_nil, Nat.mul_one, sideA_eq, trA_eq, encI_def, *] | simp (disch := omega) only [if_pos, if_neg] | refine R.seq ?_ | refine LCB.text ?_ | refine LCB.quiet rfl ?_ | refine R.anyX ?_ | refine R.block ?_ | refine LCB.skip ?_ | refine LCB.exit ?_ | refine LCB.ret ?_ | ((first | refine RetOk.val hcl ?_ | refine Weak.at hcl ?_); simp only [seval, evw, fm, sb, ew, ec, evs_eq, encEv_def, List.map_nil, Nat.mul_one, sideA_eq, trA_eq, encI_def, *]) | ((first | refine LCB.cond (by simp only [seval, evx] <;> rfl) ?_ ?_ | refine wpG_split (by simp only [seval, evx] <;> rfl) ?_ ?_ | refine wxG_split (by simp only [seval, evx] <;> rfl) ?_ ?_) <;> (intro hc; try simp only [seval, nf] at hc)) | refine ACalls.inst ?_ | refine CallX.inst ?_ | (with_reducible refine And.intro ?_ ?_) | exact True.intro | refine CallX.pure h1.of ?_ | refine ACalls.pure h1.of ?_ | refine CallX.pure h2.of ?_ | refine ACalls.pure h2.of ?_ | refine CallX.pure h3.of ?_ | refine CallX.pure h4.of ?_ | refine CallX.pure h5.of ?_ | refine CallX.pure h6.of ?_ | refine CallX.pure h7.of ?_ | refine CallX.pure h8.of ?_)
      refine ⟨4, by simp, by simp only; omega, Weak.at hcl ?_⟩
      simp only [seval, evw, fm, sb, ew, ec, evs_eq, encEv_def, List.map_nil, Nat.mul_one, sideA_eq, trA_eq, encI_def, *]
    · have hr : RES = 3 := hres.of.symm
      repeat' (first | simp only [seval, evx, beq_self_eq_true, sb, ew, ec, evs_eq, encEv_def, List.map_nil, Nat.mul_one, sideA_eq, trA_eq, encI_def, *] | simp (disch := omega) only [if_pos, if_neg] | refine R.seq ?_ | refine LCB.text ?_ | refine LCB.quiet rfl ?_ | refine R.anyX ?_ | refine R.block ?_ | refine LCB.skip ?_ | refine LCB.exit ?_ | refine LCB.ret ?_ | ((first | refine RetOk.val hcl ?_ | refine Weak.at hcl ?_); simp only [seval, evw, fm, sb, ew, ec, evs_eq, encEv_def, List.map_nil, Nat.mul_one, sideA_eq, trA_eq, encI_def, *]) | ((first | refine LCB.cond (by simp only [seval, evx] <;> rfl) ?_ ?_ | refine wpG_split (by simp only [seval, evx] <;> rfl) ?_ ?_ | refine wxG_split (by simp only [seval, evx] <;> rfl) ?_ ?_) <;> (intro hc; try simp only [seval, nf] at hc)) | refine ACalls.inst ?_ | refine CallX.inst ?_ | (with_reducible refine And.intro ?_ ?_) | exact True.intro | refine CallX.pure h1.of ?_ | refine ACalls.pure h1.of ?_ | refine CallX.pure h2.of ?_ | refine ACalls.pure h2.of ?_ | refine CallX.pure h3.of ?_ | refine CallX.pure h4.of ?_ | refine CallX.pure h5.of ?_ | refine CallX.pure h6.of ?_ | refine CallX.pure h7.of ?_ | refine CallX.pure h8.of ?_)
  · have q1 := q1 (by omega)
    have q2 := q2 (by omega)
    have q3 := q3 (by omega)
    subst q1 q2 q3
    clear q4
    cases X4
    · repeat' (first | simp only [seval, evx, beq_self_eq_true, sb, ew, ec, evs_eq, encEv_def, List.map_nil, Nat.mul_one, sideA_eq, trA_eq, encI_def, *] | simp (disch := omega) only [if_pos, if_neg] | refine R.seq ?_ | refine LCB.text ?_ | refine LCB.quiet rfl ?_ | refine R.anyX ?_ | refine R.block ?_ | refine LCB.skip ?_ | refine LCB.exit ?_ | refine LCB.ret ?_ | ((first | refine RetOk.val hcl ?_ | refine Weak.at hcl ?_); simp only [seval, evw, fm, sb, ew, ec, evs_eq, encEv_def, List.map_nil, Nat.mul_one, sideA_eq, trA_eq, encI_def, *]) | ((first | refine LCB.cond (by simp only [seval, evx] <;> rfl) ?_ ?_ | refine wpG_split (by simp only [seval, evx] <;> rfl) ?_ ?_ | refine wxG_split (by simp only [seval, evx] <;> rfl) ?_ ?_) <;> (intro hc; try simp only [seval, nf] at hc)) | refine ACalls.inst ?_ | refine CallX.inst ?_ | (with_reducible refine And.intro ?_ ?_) | exact True.intro | refine CallX.pure h1.of ?_ | refine ACalls.pure h1.of ?_ | refine CallX.pure h2.of ?_ | refine ACalls.pure h2.of ?_ | refine CallX.pure h3.of ?_ | refine CallX.pure h4.of ?_ | refine CallX.pure h5.of ?_ | refine CallX.pure h6.of ?_ | refine CallX.pure h7.of ?_ | refine CallX.pure h8.of ?_)
      refine ⟨5, by simp, by simp only; omega, Weak.at hcl ?_⟩
      simp only [seval, evw, fm, sb, ew, ec, evs_eq, encEv_def, List.map_nil, Nat.mul_one, sideA_eq, trA_eq, encI_def, *]
    · have hr : RES = 4 := hres.of.symm
      repeat' (first | simp only [seval, evx, beq_self_eq_true, sb, ew, ec, evs_eq, encEv_def, List.map_nil, Nat.mul_one, sideA_eq, trA_eq, encI_def, *] | simp (disch := omega) only [if_pos, if_neg] | refine R.seq ?_ | refine LCB.text ?_ | refine LCB.quiet rfl ?_ | refine R.anyX ?_ | refine R.block ?_ | refine LCB.skip ?_ | refine LCB.exit ?_ | refine LCB.ret ?_ | ((first | refine RetOk.val hcl ?_ | refine Weak.at hcl ?_); simp only [seval, evw, fm, sb, ew, ec, evs_eq, encEv_def, List.map_nil, Nat.mul_one, sideA_eq, trA_eq, encI_def, *]) | ((first | refine LCB.cond (by simp only [seval, evx] <;> rfl) ?_ ?_ | refine wpG_split (by simp only [seval, evx] <;> rfl) ?_ ?_ | refine wxG_split (by simp only [seval, evx] <;> rfl) ?_ ?_) <;> (intro hc; try simp only [seval, nf] at hc)) | refine ACalls.inst ?_ | refine CallX.inst ?_ | (with_reducible refine And.intro ?_ ?_) | exact True.intro | refine CallX.pure h1.of ?_ | refine ACalls.pure h1.of ?_ | refine CallX.pure h2.of ?_ | refine ACalls.pure h2.of ?_ | refine CallX.pure h3.of ?_ | refine CallX.pure h4.of ?_ | refine CallX.pure h5.of ?_ | refine CallX.pure h6.of ?_ | refine CallX.pure h7.of ?_ | refine CallX.pure h8.of ?_)
  · have q1 := q1 (by omega)
    have q2 := q2 (by omega)
    have q3 := q3 (by omega)
    have q4 := q4 (by omega)
    subst q1 q2 q3 q4
    have hr : RES = 0 := hres.of.symm
    repeat' (first | simp only [seval, evx, beq_self_eq_true, sb, ew, ec, evs_eq, encEv_def, List.map_nil, Nat.mul_one, sideA_eq, trA_eq, encI_def, *] | simp (disch := omega) only [if_pos, if_neg] | refine R.seq ?_ | refine LCB.text ?_ | refine LCB.quiet rfl ?_ | refine R.anyX ?_ | refine R.block ?_ | refine LCB.skip ?_ | refine LCB.exit ?_ | refine LCB.ret ?_ | ((first | refine RetOk.val hcl ?_ | refine Weak.at hcl ?_); simp only [seval, evw, fm, sb, ew, ec, evs_eq, encEv_def, List.map_nil, Nat.mul_one, sideA_eq, trA_eq, encI_def, *]) | ((first | refine LCB.cond (by simp only [seval, evx] <;> rfl) ?_ ?_ | refine wpG_split (by simp only [seval, evx] <;> rfl) ?_ ?_ | refine wxG_split (by simp only [seval, evx] <;> rfl) ?_ ?_) <;> (intro hc; try simp only [seval, nf] at hc)) | refine ACalls.inst ?_ | refine CallX.inst ?_ | (with_reducible refine And.intro ?_ ?_) | exact True.intro | refine CallX.pure h1.of ?_ | refine ACalls.pure h1.of ?_ | refine CallX.pure h2.of ?_ | refine ACalls.pure h2.of ?_ | refine CallX.pure h3.of ?_ | refine CallX.pure h4.of ?_ | refine CallX.pure h5.of ?_ | refine CallX.pure h6.of ?_ | refine CallX.pure h7.of ?_ | refine CallX.pure h8.of ?_)
end Go.Proofs.YtphmakopjfbmnaaDoor
