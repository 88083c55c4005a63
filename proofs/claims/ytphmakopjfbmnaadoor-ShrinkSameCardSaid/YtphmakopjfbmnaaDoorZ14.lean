/-
  Texts of this claim, put together.
-/
import Derived.Test.YtphmakopjfbmnaaDoorZ13
namespace Go.Proofs.YtphmakopjfbmnaaDoor
open Go.RowKit
set_option linter.unusedVariables false
set_option linter.unusedSimpArgs false
set_option maxHeartbeats 4000000 in
theorem shrink_least_ok {H : List AObj} {g : FuncId} {cap : List AV} (P : Nat → Bool) (n : Nat) (hn : n ≤ 100000) (mono : ∀ a b, a ≤ b → b ≤ n → P a = true → P b = true) (hP : P n = true) (hcc : cleanAll H.length cap = true)
    (hcl0 : ∀ m : Nat, m ≤ n → ACalls Tryd.prog g ([.int .i64 (m : Int)] ++ cap) H fun r H' => r = .bool (P m) ∧ H' = H) :
    ACalls Tryd.prog 16 [.int .i64 0, .int .i64 (n : Int), .fn (.func g) [] cap] H fun r H' => r = .int .i64 (leastN P n : Int) ∧ H' = H := by
  refine ACalls.go shrink_least_int.low (by simp) fun hcl => ?_
  have hcall : Hold (∀ m : Nat, m ≤ n → ACalls Tryd.prog g (.int .i64 (m : Int) :: cap) (H ++ []) fun r H' => r = .bool (P m) ∧ H' = H ++ []) := ⟨fun m hm => by
    have := hcl0 m hm
    rw [List.append_nil]
    exact this⟩
  obtain ⟨s1, s2, s3⟩ := leastN_spec P n
  have s4 := leastN_tells hP
  generalize leastN P n = r at *
  have up : Hold (∀ m, m ≤ n → P m = true → r ≤ m) := ⟨fun m _ h => by
    apply Nat.le_of_not_lt
    intro hlt
    rw [s3 m hlt] at h
    cases h⟩
  have dn : Hold (∀ m, m ≤ n → P m = false → m < r) := ⟨fun m hm h => by
    apply Nat.lt_of_not_le
    intro hle
    rw [mono r m hle hm s4] at h
    cases h⟩
  clear hcl0 s2 s3 s4 mono hP
  have vfn : View (H ++ []) (H.length + 0) (.fn (.func g) [] cap) (.fn (.func g) [] cap) := .same _ (by simp [AV.clean, cleanAll, hcc])
  replace vfn := Hold.mk vfn
  (refine R.seq ?_; refine LCB.text ?_; repeat' (first | simp only [seval, evo, beq_self_eq_true, sb, ew, ec, List.map_nil, Nat.mul_one, CallA_fn2, *] | simp (disch := omega) only [if_pos, if_neg]))
  refine R.seq ?_
  refine R.block (R.loop (S := Nat × Nat) ⟨fun y => [(0, .int .i64 (y.1 : Int)), (1, .int .i64 (y.2 : Int)), (2, .fn (.func g) [] cap)], fun y => H ++ [], fun y => y.1 ≤ r ∧ r ≤ y.2 ∧ y.2 ≤ n, fun y => y.2 - y.1⟩ (0, n) ⟨Nat.zero_le _, s1, Nat.le_refl _⟩ (Weak.at hcl ?_) ?_)
  · simp only [seval, evw, fm, sb, ew, ec, List.map_nil, Nat.mul_one, CallA_fn2, *]
  rintro ⟨a, b⟩ ⟨i1, i2, i3⟩
  simp only at i1 i2 i3 ⊢
  by_cases hab : a < b
  · obtain ⟨m, hm⟩ : ∃ m, m = a + (b - a) / 2 := ⟨_, rfl⟩
    have hm1 : a ≤ m ∧ m < b := by omega
    have e1 : (a : Int) < (b : Int) := by omega
    have e2 : IntKind.i64.wrap ((b : Int) - (a : Int)) = ((b - a : Nat) : Int) := by rw [IntKind.wrap_i64]; omega
    have e3 : Int.tdiv ((b - a : Nat) : Int) 2 = (((b - a) / 2 : Nat) : Int) := by rw [Int.tdiv_eq_ediv_of_nonneg (by omega)]; omega
    have e4 : IntKind.i64.wrap (((b - a) / 2 : Nat) : Int) = (((b - a) / 2 : Nat) : Int) := by rw [IntKind.wrap_i64]; omega
    have e5 : IntKind.i64.wrap ((a : Int) + (((b - a) / 2 : Nat) : Int)) = (m : Int) := by rw [IntKind.wrap_i64]; omega
    have e6 : IntKind.i64.wrap ((m : Int) + 1) = ((m + 1 : Nat) : Int) := by rw [IntKind.wrap_i64]; omega
    have u1 := up.of m (by omega)
    have d1 := dn.of m (by omega)
    have hc1 := hcall.of m (by omega)
    replace hc1 := Hold.mk hc1
    replace hm := Hold.mk hm
    cases hp : P m
    · have d2 := d1 hp
      clear u1 d1
      repeat' (first | simp only [seval, evx, beq_self_eq_true, sb, ew, ec, List.map_nil, Nat.mul_one, CallA_fn2, *] | simp (disch := omega) only [if_pos, if_neg] | refine R.seq ?_ | refine LCB.text ?_ | refine LCB.quiet rfl ?_ | refine R.anyX ?_ | refine R.block ?_ | refine LCB.skip ?_ | refine LCB.exit ?_ | refine LCB.ret ?_ | ((first | refine RetOk.val hcl ?_ | refine Weak.at hcl ?_); simp only [seval, evw, fm, sb, ew, ec, List.map_nil, Nat.mul_one, CallA_fn2, *]) | ((first | refine LCB.cond (by simp only [seval, evx] <;> rfl) ?_ ?_ | refine wpG_split (by simp only [seval, evx] <;> rfl) ?_ ?_ | refine wxG_split (by simp only [seval, evx] <;> rfl) ?_ ?_) <;> (intro hc; try simp only [seval, nf] at hc)) | refine ACalls.inst ?_ | refine CallX.inst ?_ | (with_reducible refine And.intro ?_ ?_) | exact True.intro | refine ACalls.pure hn.of ?_)
      refine hc1.of.mono ?_
      rintro r' H' ⟨rfl, rfl⟩
      rw [hp]
      repeat' (first | simp only [seval, evx, beq_self_eq_true, sb, ew, ec, List.map_nil, Nat.mul_one, CallA_fn2, *] | simp (disch := omega) only [if_pos, if_neg] | refine R.seq ?_ | refine LCB.text ?_ | refine LCB.quiet rfl ?_ | refine R.anyX ?_ | refine R.block ?_ | refine LCB.skip ?_ | refine LCB.exit ?_ | refine LCB.ret ?_ | ((first | refine RetOk.val hcl ?_ | refine Weak.at hcl ?_); simp only [seval, evw, fm, sb, ew, ec, List.map_nil, Nat.mul_one, CallA_fn2, *]) | ((first | refine LCB.cond (by simp only [seval, evx] <;> rfl) ?_ ?_ | refine wpG_split (by simp only [seval, evx] <;> rfl) ?_ ?_ | refine wxG_split (by simp only [seval, evx] <;> rfl) ?_ ?_) <;> (intro hc; try simp only [seval, nf] at hc)) | refine ACalls.inst ?_ | refine CallX.inst ?_ | (with_reducible refine And.intro ?_ ?_) | exact True.intro | refine ACalls.pure hn.of ?_)
      refine ⟨(m + 1, b), ⟨d2, i2, i3⟩, by simp only; omega, Weak.at hcl ?_⟩
      simp only [seval, evw, fm, sb, ew, ec, List.map_nil, Nat.mul_one, CallA_fn2, *]
    · have u2 := u1 hp
      clear u1 d1
      repeat' (first | simp only [seval, evx, beq_self_eq_true, sb, ew, ec, List.map_nil, Nat.mul_one, CallA_fn2, *] | simp (disch := omega) only [if_pos, if_neg] | refine R.seq ?_ | refine LCB.text ?_ | refine LCB.quiet rfl ?_ | refine R.anyX ?_ | refine R.block ?_ | refine LCB.skip ?_ | refine LCB.exit ?_ | refine LCB.ret ?_ | ((first | refine RetOk.val hcl ?_ | refine Weak.at hcl ?_); simp only [seval, evw, fm, sb, ew, ec, List.map_nil, Nat.mul_one, CallA_fn2, *]) | ((first | refine LCB.cond (by simp only [seval, evx] <;> rfl) ?_ ?_ | refine wpG_split (by simp only [seval, evx] <;> rfl) ?_ ?_ | refine wxG_split (by simp only [seval, evx] <;> rfl) ?_ ?_) <;> (intro hc; try simp only [seval, nf] at hc)) | refine ACalls.inst ?_ | refine CallX.inst ?_ | (with_reducible refine And.intro ?_ ?_) | exact True.intro | refine ACalls.pure hn.of ?_)
      refine hc1.of.mono ?_
      rintro r' H' ⟨rfl, rfl⟩
      rw [hp]
      repeat' (first | simp only [seval, evx, beq_self_eq_true, sb, ew, ec, List.map_nil, Nat.mul_one, CallA_fn2, *] | simp (disch := omega) only [if_pos, if_neg] | refine R.seq ?_ | refine LCB.text ?_ | refine LCB.quiet rfl ?_ | refine R.anyX ?_ | refine R.block ?_ | refine LCB.skip ?_ | refine LCB.exit ?_ | refine LCB.ret ?_ | ((first | refine RetOk.val hcl ?_ | refine Weak.at hcl ?_); simp only [seval, evw, fm, sb, ew, ec, List.map_nil, Nat.mul_one, CallA_fn2, *]) | ((first | refine LCB.cond (by simp only [seval, evx] <;> rfl) ?_ ?_ | refine wpG_split (by simp only [seval, evx] <;> rfl) ?_ ?_ | refine wxG_split (by simp only [seval, evx] <;> rfl) ?_ ?_) <;> (intro hc; try simp only [seval, nf] at hc)) | refine ACalls.inst ?_ | refine CallX.inst ?_ | (with_reducible refine And.intro ?_ ?_) | exact True.intro | refine ACalls.pure hn.of ?_)
      refine ⟨(a, m), ⟨i1, u2, by simp only; omega⟩, by simp only; omega, Weak.at hcl ?_⟩
      simp only [seval, evw, fm, sb, ew, ec, List.map_nil, Nat.mul_one, CallA_fn2, *]
  · have hie : a = r := by omega
    subst hie
    have e1 : ¬ (a : Int) < (b : Int) := by omega
    repeat' (first | simp only [seval, evx, beq_self_eq_true, sb, ew, ec, List.map_nil, Nat.mul_one, CallA_fn2, *] | simp (disch := omega) only [if_pos, if_neg] | refine R.seq ?_ | refine LCB.text ?_ | refine LCB.quiet rfl ?_ | refine R.anyX ?_ | refine R.block ?_ | refine LCB.skip ?_ | refine LCB.exit ?_ | refine LCB.ret ?_ | ((first | refine RetOk.val hcl ?_ | refine Weak.at hcl ?_); simp only [seval, evw, fm, sb, ew, ec, List.map_nil, Nat.mul_one, CallA_fn2, *]) | ((first | refine LCB.cond (by simp only [seval, evx] <;> rfl) ?_ ?_ | refine wpG_split (by simp only [seval, evx] <;> rfl) ?_ ?_ | refine wxG_split (by simp only [seval, evx] <;> rfl) ?_ ?_) <;> (intro hc; try simp only [seval, nf] at hc)) | refine ACalls.inst ?_ | refine CallX.inst ?_ | (with_reducible refine And.intro ?_ ?_) | exact True.intro | refine ACalls.pure hn.of ?_)
end Go.Proofs.YtphmakopjfbmnaaDoor
namespace Go.Proofs.YtphmakopjfbmnaaDoor
open Go.RowKit
set_option linter.unusedVariables false
set_option linter.unusedSimpArgs false
theorem tellA_yes {f g : List Ins} {c : Cs} (hf : fnOk f = true) (hg : fnOk g = true) (hc : csRight c = true) : tellA f g c = .tup [.int .i64 (tellF f g c), .int .i64 0] := by
  unfold tellA
  rw [hf, hg, hc]
  rfl
def csC (c : Cs) : List AV := ic c.R ++ [.list (c.heap.map encI), .list (c.ans.map encI), .int .i64 c.fuel]
theorem csC_eq (c : Cs) : csC c = ic c.R ++ [.list (c.heap.map encI), .list (c.ans.map encI), .int .i64 c.fuel] := rfl
set_option maxHeartbeats 4000000 in
theorem shrink_tells_ok {G : List AObj} (f g : List Ins) (c : Cs) (i j : Nat) (hi : G[i]? = some (.vec 1 [[.list (f.map encIns)]])) (hj : G[j]? = some (.vec 1 [[.list (g.map encIns)]])) (hR : c.R.length = 8) (hf : fnOk f = true) (hg : fnOk g = true) (hc : csRight c = true) :
    ACalls Tryd.prog 15 [.agg (csC c), .ptr i 1 0 0, .ptr j 1 0 0] G fun r H' => r = .bool (tellsB f g c) ∧ H' = G := by
  refine ACalls.go shrink_Case_1.low (by simp) fun hcl => ?_
  have hn := differ_Tell_ok f g c hR (by have := (fnOk_iff.1 hf).1; omega) (by have := (fnOk_iff.1 hg).1; omega)
  rw [tellA_yes hf hg hc] at hn
  have hi1 : i < G.length := (List.getElem?_eq_some_iff.1 hi).1
  have hj1 : j < G.length := (List.getElem?_eq_some_iff.1 hj).1
  have g1 : ∀ M : List AObj, (G ++ M)[i]? = some (.vec 1 [[.list (f.map encIns)]]) := fun M => by rw [in_get hi1, hi]
  have g2 : ∀ M : List AObj, (G ++ M)[j]? = some (.vec 1 [[.list (g.map encIns)]]) := fun M => by rw [in_get hj1, hj]
  have hil : (ic c.R).length = 8 := by rw [ic_len, hR]
  have ht : tellsB f g c = !decide (tellF f g c = 0) := rfl
  rw [csA_eq] at hn
  unfold encFn at hn
  generalize tellF f g c = k at *
  rw [ht]
  clear ht hf hg hc hi hj hi1 hj1
  replace hn := Hold.mk hn
  replace hR := Hold.mk hR
  repeat' (first | simp only [seval, evx, beq_self_eq_true, sb, ew, ec, List.map_nil, Nat.mul_one, CallA_fn2, csC_eq, *] | simp (disch := omega) only [if_pos, if_neg] | refine R.seq ?_ | refine LCB.text ?_ | refine LCB.quiet rfl ?_ | refine R.anyX ?_ | refine R.block ?_ | refine LCB.skip ?_ | refine LCB.exit ?_ | refine LCB.ret ?_ | ((first | refine RetOk.val hcl ?_ | refine Weak.at hcl ?_); simp only [seval, evw, fm, sb, ew, ec, List.map_nil, Nat.mul_one, CallA_fn2, csC_eq, *]) | ((first | refine LCB.cond (by simp only [seval, evx] <;> rfl) ?_ ?_ | refine wpG_split (by simp only [seval, evx] <;> rfl) ?_ ?_ | refine wxG_split (by simp only [seval, evx] <;> rfl) ?_ ?_) <;> (intro hc; try simp only [seval, nf] at hc)) | refine ACalls.inst ?_ | refine CallX.inst ?_ | (with_reducible refine And.intro ?_ ?_) | exact True.intro | refine ACalls.pure hn.of ?_)
structure ShMem (G : List AObj) (f g : List Ins) (c : Cs) (i j k l : Nat) : Prop where
  f : G[i]? = some (.vec 1 [[.list (f.map encIns)]])
  g : G[j]? = some (.vec 1 [[.list (g.map encIns)]])
  c : G[k]? = some (.vec 11 [csC c])
  t : G[l]? = some (.vec 1 [[.fn (.func 15) [] [.ptr i 1 0 0, .ptr j 1 0 0]]])
theorem shrink_Case_2_ok {G : List AObj} (f g : List Ins) (c : Cs) (i j k l : Nat) (hM : ShMem G f g c i j k l) (n : Nat) (hR : c.R.length = 8) (hf : fnOk f = true) (hg : fnOk g = true) (hc : csRight { c with fuel := (n : Int) } = true) :
    ACalls Tryd.prog 17 [.int .i64 (n : Int), .ptr k 1 0 0, .ptr l 1 0 0] G fun r H' => r = .bool (tellsB f g { c with fuel := (n : Int) }) ∧ H' = G := by
  refine ACalls.go shrink_Case_2.low (by simp) fun hcl => ?_
  obtain ⟨m1, m2, m3, m4⟩ := hM
  have l1 : i < G.length := (List.getElem?_eq_some_iff.1 m1).1
  have l2 : j < G.length := (List.getElem?_eq_some_iff.1 m2).1
  have l3 : k < G.length := (List.getElem?_eq_some_iff.1 m3).1
  have l4 : l < G.length := (List.getElem?_eq_some_iff.1 m4).1
  have g3 : ∀ M : List AObj, (G ++ M)[k]? = some (.vec 11 [csC c]) := fun M => by rw [in_get l3, m3]
  have g4 : ∀ M : List AObj, (G ++ M)[l]? = some (.vec 1 [[.fn (.func 15) [] [.ptr i 1 0 0, .ptr j 1 0 0]]]) := fun M => by rw [in_get l4, m4]
  have hcall : Hold (∀ M : List AObj, ACalls Tryd.prog 15 [.agg (csC { c with fuel := (n : Int) }), .ptr i 1 0 0, .ptr j 1 0 0] (G ++ M) fun r H' => r = .bool (tellsB f g { c with fuel := (n : Int) }) ∧ H' = G ++ M) :=
    ⟨fun M => shrink_tells_ok f g _ i j (by rw [in_get l1, m1]) (by rw [in_get l2, m2]) hR hf hg hc⟩
  have hil : (ic c.R).length = 8 := by rw [ic_len, hR]
  generalize tellsB f g { c with fuel := (n : Int) } = x at *
  clear m1 m2 m3 m4 l1 l2 l3 l4 hf hg hc
  replace hR := Hold.mk hR
  repeat' (first | simp only [seval, evx, beq_self_eq_true, sb, ew, ec, List.map_nil, Nat.mul_one, CallA_fn2, csC_eq, *] | simp (disch := omega) only [if_pos, if_neg] | refine R.seq ?_ | refine LCB.text ?_ | refine LCB.quiet rfl ?_ | refine R.anyX ?_ | refine R.block ?_ | refine LCB.skip ?_ | refine LCB.exit ?_ | refine LCB.ret ?_ | ((first | refine RetOk.val hcl ?_ | refine Weak.at hcl ?_); simp only [seval, evw, fm, sb, ew, ec, List.map_nil, Nat.mul_one, CallA_fn2, csC_eq, *]) | ((first | refine LCB.cond (by simp only [seval, evx] <;> rfl) ?_ ?_ | refine wpG_split (by simp only [seval, evx] <;> rfl) ?_ ?_ | refine wxG_split (by simp only [seval, evx] <;> rfl) ?_ ?_) <;> (intro hc; try simp only [seval, nf] at hc)) | refine ACalls.inst ?_ | refine CallX.inst ?_ | (with_reducible refine And.intro ?_ ?_) | exact True.intro | refine ACalls.pure hn.of ?_)
  refine (hcall.of _).mono ?_
  rintro r' H' ⟨rfl, rfl⟩
  repeat' (first | simp only [seval, evx, beq_self_eq_true, sb, ew, ec, List.map_nil, Nat.mul_one, CallA_fn2, csC_eq, *] | simp (disch := omega) only [if_pos, if_neg] | refine R.seq ?_ | refine LCB.text ?_ | refine LCB.quiet rfl ?_ | refine R.anyX ?_ | refine R.block ?_ | refine LCB.skip ?_ | refine LCB.exit ?_ | refine LCB.ret ?_ | ((first | refine RetOk.val hcl ?_ | refine Weak.at hcl ?_); simp only [seval, evw, fm, sb, ew, ec, List.map_nil, Nat.mul_one, CallA_fn2, csC_eq, *]) | ((first | refine LCB.cond (by simp only [seval, evx] <;> rfl) ?_ ?_ | refine wpG_split (by simp only [seval, evx] <;> rfl) ?_ ?_ | refine wxG_split (by simp only [seval, evx] <;> rfl) ?_ ?_) <;> (intro hc; try simp only [seval, nf] at hc)) | refine ACalls.inst ?_ | refine CallX.inst ?_ | (with_reducible refine And.intro ?_ ?_) | exact True.intro | refine ACalls.pure hn.of ?_)
theorem shrink_Case_3_ok {G : List AObj} (f g : List Ins) (c : Cs) (i j k l : Nat) (hM : ShMem G f g c i j k l) (n : Nat) (hn : n ≤ c.ans.length) (hR : c.R.length = 8) (hf : fnOk f = true) (hg : fnOk g = true) (hc : csRight { c with ans := c.ans.take n } = true) :
    ACalls Tryd.prog 18 [.int .i64 (n : Int), .ptr k 1 0 0, .ptr l 1 0 0] G fun r H' => r = .bool (tellsB f g { c with ans := c.ans.take n }) ∧ H' = G := by
  refine ACalls.go shrink_Case_3.low (by simp) fun hcl => ?_
  obtain ⟨m1, m2, m3, m4⟩ := hM
  have l1 : i < G.length := (List.getElem?_eq_some_iff.1 m1).1
  have l2 : j < G.length := (List.getElem?_eq_some_iff.1 m2).1
  have l3 : k < G.length := (List.getElem?_eq_some_iff.1 m3).1
  have l4 : l < G.length := (List.getElem?_eq_some_iff.1 m4).1
  have g3 : ∀ M : List AObj, (G ++ M)[k]? = some (.vec 11 [csC c]) := fun M => by rw [in_get l3, m3]
  have g4 : ∀ M : List AObj, (G ++ M)[l]? = some (.vec 1 [[.fn (.func 15) [] [.ptr i 1 0 0, .ptr j 1 0 0]]]) := fun M => by rw [in_get l4, m4]
  have hcall : Hold (∀ M : List AObj, ACalls Tryd.prog 15 [.agg (csC { c with ans := c.ans.take n }), .ptr i 1 0 0, .ptr j 1 0 0] (G ++ M) fun r H' => r = .bool (tellsB f g { c with ans := c.ans.take n }) ∧ H' = G ++ M) :=
    ⟨fun M => shrink_tells_ok f g _ i j (by rw [in_get l1, m1]) (by rw [in_get l2, m2]) hR hf hg hc⟩
  have hil : (ic c.R).length = 8 := by rw [ic_len, hR]
  have e1 : (n : Int) ≤ (c.ans.length : Int) := by omega
  have hne : c.ans.map encI = [] ∨ ((c.ans.map encI).headD []).length = 1 := by cases c.ans <;> simp [encI]
  have t1 : (c.ans.take n).map encI = (c.ans.map encI).take n := List.map_take
  generalize tellsB f g { c with ans := c.ans.take n } = x at *
  clear m1 m2 m3 m4 l1 l2 l3 l4 hf hg hc
  simp only [csC_eq, t1] at hcall
  clear t1
  replace hR := Hold.mk hR
  repeat' (first | simp only [seval, evx, beq_self_eq_true, sb, ew, ec, List.map_nil, Nat.mul_one, CallA_fn2, csC_eq, *] | simp (disch := omega) only [if_pos, if_neg] | refine R.seq ?_ | refine LCB.text ?_ | refine LCB.quiet rfl ?_ | refine R.anyX ?_ | refine R.block ?_ | refine LCB.skip ?_ | refine LCB.exit ?_ | refine LCB.ret ?_ | ((first | refine RetOk.val hcl ?_ | refine Weak.at hcl ?_); simp only [seval, evw, fm, sb, ew, ec, List.map_nil, Nat.mul_one, CallA_fn2, csC_eq, *]) | ((first | refine LCB.cond (by simp only [seval, evx] <;> rfl) ?_ ?_ | refine wpG_split (by simp only [seval, evx] <;> rfl) ?_ ?_ | refine wxG_split (by simp only [seval, evx] <;> rfl) ?_ ?_) <;> (intro hc; try simp only [seval, nf] at hc)) | refine ACalls.inst ?_ | refine CallX.inst ?_ | (with_reducible refine And.intro ?_ ?_) | exact True.intro | refine ACalls.pure hn.of ?_)
  refine (hcall.of _).mono ?_
  rintro r' H' ⟨rfl, rfl⟩
  repeat' (first | simp only [seval, evx, beq_self_eq_true, sb, ew, ec, List.map_nil, Nat.mul_one, CallA_fn2, csC_eq, *] | simp (disch := omega) only [if_pos, if_neg] | refine R.seq ?_ | refine LCB.text ?_ | refine LCB.quiet rfl ?_ | refine R.anyX ?_ | refine R.block ?_ | refine LCB.skip ?_ | refine LCB.exit ?_ | refine LCB.ret ?_ | ((first | refine RetOk.val hcl ?_ | refine Weak.at hcl ?_); simp only [seval, evw, fm, sb, ew, ec, List.map_nil, Nat.mul_one, CallA_fn2, csC_eq, *]) | ((first | refine LCB.cond (by simp only [seval, evx] <;> rfl) ?_ ?_ | refine wpG_split (by simp only [seval, evx] <;> rfl) ?_ ?_ | refine wxG_split (by simp only [seval, evx] <;> rfl) ?_ ?_) <;> (intro hc; try simp only [seval, nf] at hc)) | refine ACalls.inst ?_ | refine CallX.inst ?_ | (with_reducible refine And.intro ?_ ?_) | exact True.intro | refine ACalls.pure hn.of ?_)
end Go.Proofs.YtphmakopjfbmnaaDoor
namespace Go.Proofs.YtphmakopjfbmnaaDoor
open Go.RowKit
set_option linter.unusedVariables false
set_option linter.unusedSimpArgs false
def cs0 : Cs := ⟨[0, 0, 0, 0, 0, 0, 0, 0], [], [], 0⟩
def caseA (f g : List Ins) (c : Cs) : AV :=
  if fnOk f && (fnOk g && csRight c) then (if tellF f g c = 0 then .tup [csA c, .int .i64 0, .int .i64 0] else .tup [csA (shrunk f g c), .int .i64 (tellF f g (shrunk f g c)), .int .i64 0])
  else .tup [csA cs0, .int .i64 0, .int .i64 1]
theorem cs0_eq : csA cs0 = .agg [.int .i64 0, .int .i64 0, .int .i64 0, .int .i64 0, .int .i64 0, .int .i64 0, .int .i64 0, .int .i64 0, .list [], .list [], .int .i64 0] := rfl
theorem ic_set {R : List Int} {r : List AV} {i : Nat} {v : Int} (h : i < R.length) : (ic R ++ r).take i ++ .int .i64 v :: (ic R ++ r).drop (i + 1) = ic (R.set i v) ++ r := by
  have hl := ic_len R
  rw [List.take_append_of_le_length (by omega), List.drop_append_of_le_length (by omega)]
  unfold ic
  rw [List.map_set, List.set_eq_take_append_cons_drop, if_pos (by simpa using h)]
  simp
theorem ic_set2 {R : List Int} {r : List AV} {i : Nat} {v : Int} (h : i < R.length) : (ic R ++ r).take i ++ [.int .i64 v] ++ (ic R ++ r).drop (i + 1) = ic (R.set i v) ++ r := by
  rw [← ic_set h]; simp
def shH (h : Nat) (f g : List Ins) (c : Cs) : List AObj := [.vec 1 [[.list (f.map encIns)]], .vec 1 [[.list (g.map encIns)]], .vec 11 [csC c], .vec 11 [[.int .i64 0, .int .i64 0, .int .i64 0, .int .i64 0, .int .i64 0, .int .i64 0, .int .i64 0, .int .i64 0, .imm (.slice none 0 0), .imm (.slice none 0 0), .int .i64 0]], .vec 1 [[.fn (.func 15) [] [.ptr h 1 0 0, .ptr (h + 1) 1 0 0]]]]
theorem shH_eq {h : Nat} {f g : List Ins} {c : Cs} : shH h f g c = [.vec 1 [[.list (f.map encIns)]], .vec 1 [[.list (g.map encIns)]], .vec 11 [csC c], .vec 11 [[.int .i64 0, .int .i64 0, .int .i64 0, .int .i64 0, .int .i64 0, .int .i64 0, .int .i64 0, .int .i64 0, .imm (.slice none 0 0), .imm (.slice none 0 0), .int .i64 0]], .vec 1 [[.fn (.func 15) [] [.ptr h 1 0 0, .ptr (h + 1) 1 0 0]]]] := rfl
theorem shMem (H : List AObj) (f g : List Ins) (c : Cs) : ShMem (H ++ shH H.length f g c) f g c H.length (H.length + 1) (H.length + 2) (H.length + 4) := by
  constructor <;> (rw [List.getElem?_append_right (by omega)]; simp [shH])
theorem least_fuel {H : List AObj} {f g : List Ins} {c : Cs} (hR : c.R.length = 8) (hf : fnOk f = true) (hg : fnOk g = true) (hc : csRight c = true) (ht : tellsB f g c = true) :
    ACalls Tryd.prog 16 [.int .i64 0, .int .i64 c.fuel, .fn (.func 17) [] [.ptr (H.length + 2) 1 0 0, .ptr (H.length + 4) 1 0 0]] (H ++ shH H.length f g c) fun r H' => r = .int .i64 (shFuel f g c).fuel ∧ H' = H ++ shH H.length f g c := by
  obtain ⟨k1, k2, k3, k4⟩ := csRight_iff.1 hc
  have hF : ((c.fuel.toNat : Nat) : Int) = c.fuel := by omega
  have := shrink_least_ok (H := H ++ shH H.length f g c) (g := 17) (cap := [.ptr (H.length + 2) 1 0 0, .ptr (H.length + 4) 1 0 0]) (fun n => tellsB f g { c with fuel := (n : Int) }) c.fuel.toNat (by omega)
    (fun a b hab hb h => tells_fuel hf hg hc hab (by omega) h) (by show tellsB f g { c with fuel := (c.fuel.toNat : Int) } = true; rw [hF]; exact ht) (by simp [cleanAll, AV.clean, shH])
    (fun m hm => shrink_Case_2_ok f g c _ _ _ _ (shMem H f g c) m hR hf hg (csRight_iff.2 ⟨k1, k2, by show (0 : Int) ≤ (m : Int); omega, by show (m : Int) ≤ 5000; omega⟩))
  rw [hF] at this
  exact this
theorem least_ans {H : List AObj} {f g : List Ins} {c : Cs} (hR : c.R.length = 8) (hf : fnOk f = true) (hg : fnOk g = true) (hc : csRight c = true) (ht : tellsB f g c = true) :
    ACalls Tryd.prog 16 [.int .i64 0, .int .i64 (c.ans.length : Int), .fn (.func 18) [] [.ptr (H.length + 2) 1 0 0, .ptr (H.length + 4) 1 0 0]] (H ++ shH H.length f g c) fun r H' => r = .int .i64 ((leastN (fun n => tellsB f g { c with ans := c.ans.take n }) c.ans.length : Nat) : Int) ∧ H' = H ++ shH H.length f g c := by
  obtain ⟨k1, k2, k3, k4⟩ := csRight_iff.1 hc
  exact shrink_least_ok (H := H ++ shH H.length f g c) (g := 18) (cap := [.ptr (H.length + 2) 1 0 0, .ptr (H.length + 4) 1 0 0]) (fun n => tellsB f g { c with ans := c.ans.take n }) c.ans.length (by omega)
    (fun a b hab hb h => tells_ans hf hg hc hab h) (by show tellsB f g { c with ans := c.ans.take c.ans.length } = true; rw [List.take_length]; exact ht) (by simp [cleanAll, AV.clean, shH])
    (fun m hm => shrink_Case_3_ok f g c _ _ _ _ (shMem H f g c) m hm hR hf hg (csRight_iff.2 ⟨k1, by show (c.ans.take m).length ≤ 5000; rw [List.length_take]; omega, k3, k4⟩))
set_option maxRecDepth 20000 in
set_option maxHeartbeats 16000000 in
theorem shrink_Case_ok (f g : List Ins) (c : Cs) (hR : c.R.length = 8) (hf : f.length ≤ 9223372036854775807) (hg : g.length ≤ 9223372036854775807) : Pure Tryd.prog 9 [encFn f, encFn g, csA c] (caseA f g c) := by
  intro H
  refine ACalls.go shrink_Case.low (by simp) fun hcl => ?_
  have h1 := differ_Tell_ok f g c hR hf hg
  have hil : (ic c.R).length = 8 := by rw [ic_len, hR]
  unfold tellA at h1
  unfold caseA
  by_cases hr : (fnOk f && (fnOk g && csRight c)) = true
  case neg =>
    rw [if_neg hr] at h1 ⊢
    rw [cs0_eq]
    rw [csA_eq] at *
    unfold encFn at *
    replace h1 := Hold.mk h1
    replace hr := Hold.mk hr
    replace hR := Hold.mk hR
    repeat' (first | simp only [seval, evx, beq_self_eq_true, sb, ew, ec, List.map_nil, Nat.mul_one, CallA_fn2, csC_eq, encI_def, shH_eq, Nat.sub_zero, *] | simp (disch := omega) only [if_pos, if_neg] | refine R.seq ?_ | refine LCB.text ?_ | refine LCB.quiet rfl ?_ | refine R.anyX ?_ | refine R.block ?_ | refine LCB.skip ?_ | refine LCB.exit ?_ | refine LCB.ret ?_ | ((first | refine RetOk.val hcl ?_ | refine Weak.at hcl ?_); simp only [seval, evw, fm, sb, ew, ec, List.map_nil, Nat.mul_one, CallA_fn2, csC_eq, encI_def, shH_eq, Nat.sub_zero, *]) | ((first | refine LCB.cond (by simp only [seval, evx] <;> rfl) ?_ ?_ | refine wpG_split (by simp only [seval, evx] <;> rfl) ?_ ?_ | refine wxG_split (by simp only [seval, evx] <;> rfl) ?_ ?_) <;> (intro hc; try simp only [seval, nf] at hc)) | refine ACalls.inst ?_ | refine CallX.inst ?_ | (with_reducible refine And.intro ?_ ?_) | exact True.intro | refine ACalls.pure h1.of ?_)
  rw [if_pos hr] at h1 ⊢
  simp only [Bool.and_eq_true] at hr
  obtain ⟨r1, r2, r3⟩ := hr
  obtain ⟨q1, q2, q3, q4⟩ := csRight_iff.1 r3
  rw [csA_eq] at h1
  rw [csA_eq c]
  unfold encFn at *
  have b1 : (0 + c.heap.length) * 8 ≤ 140737488355328 ∧ 0 + c.heap.length ≤ 9223372036854775806 ∧ c.heap.length * 8 ≤ 140737488355328 ∧ c.heap.length ≤ 9223372036854775806 := ⟨by omega, by omega, by omega, by omega⟩
  have b2 : (0 + c.ans.length) * 8 ≤ 140737488355328 ∧ 0 + c.ans.length ≤ 9223372036854775806 ∧ c.ans.length * 8 ≤ 140737488355328 ∧ c.ans.length ≤ 9223372036854775806 := ⟨by omega, by omega, by omega, by omega⟩
  obtain ⟨b3, b4, b5, b6⟩ := b1
  obtain ⟨b7, b8, b9, b10⟩ := b2
  have rk1 : rowsOk 1 (c.heap.map encI) = true := rk_map fun x _ => ⟨rfl, rfl⟩
  have rk2 : rowsOk 1 (c.ans.map encI) = true := rk_map fun x _ => ⟨rfl, rfl⟩
  clear q1 q2 q3 q4
  obtain ⟨RES, hRES⟩ : ∃ RES, (if tellF f g c = 0 then AV.tup [.agg (ic c.R ++ [.list (c.heap.map encI), .list (c.ans.map encI), .int .i64 c.fuel]), .int .i64 0, .int .i64 0] else .tup [csA (shrunk f g c), .int .i64 (tellF f g (shrunk f g c)), .int .i64 0]) = RES := ⟨_, rfl⟩
  rw [hRES]
  replace hRES := Hold.mk hRES
  replace r1 := Hold.mk r1
  replace r2 := Hold.mk r2
  replace r3 := Hold.mk r3
  replace h1 := Hold.mk h1
  replace hR := Hold.mk hR
  (refine R.seq ?_; refine LCB.text ?_; repeat' (first | simp only [seval, evx, beq_self_eq_true, sb, ew, ec, List.map_nil, Nat.mul_one, CallA_fn2, csC_eq, encI_def, shH_eq, Nat.sub_zero, *] | simp (disch := omega) only [if_pos, if_neg]))
  refine R.cut [(3, .ptr H.length 1 0 0), (4, .ptr (H.length + 1) 1 0 0), (5, .ptr (H.length + 2) 1 0 0), (6, .ptr (H.length + 3) 1 0 0), (9, .int .i64 (tellF f g c)), (10, .int .i64 0)] (H ++ [.vec 1 [[.list (f.map encIns)]], .vec 1 [[.list (g.map encIns)]], .vec 11 [csC c], .vec 11 [[.int .i64 0, .int .i64 0, .int .i64 0, .int .i64 0, .int .i64 0, .int .i64 0, .int .i64 0, .int .i64 0, .imm (.slice none 0 0), .imm (.slice none 0 0), .int .i64 0]]]) ?_ ?_
  · repeat' (first | simp only [seval, evx, beq_self_eq_true, sb, ew, ec, List.map_nil, Nat.mul_one, CallA_fn2, csC_eq, encI_def, shH_eq, Nat.sub_zero, *] | simp (disch := omega) only [if_pos, if_neg] | refine R.seq ?_ | refine LCB.text ?_ | refine LCB.quiet rfl ?_ | refine R.anyX ?_ | refine R.block ?_ | refine LCB.skip ?_ | refine LCB.exit ?_ | refine LCB.ret ?_ | ((first | refine RetOk.val hcl ?_ | refine Weak.at hcl ?_); simp only [seval, evw, fm, sb, ew, ec, List.map_nil, Nat.mul_one, CallA_fn2, csC_eq, encI_def, shH_eq, Nat.sub_zero, *]) | ((first | refine LCB.cond (by simp only [seval, evx] <;> rfl) ?_ ?_ | refine wpG_split (by simp only [seval, evx] <;> rfl) ?_ ?_ | refine wxG_split (by simp only [seval, evx] <;> rfl) ?_ ?_) <;> (intro hc; try simp only [seval, nf] at hc)) | refine ACalls.inst ?_ | refine CallX.inst ?_ | (with_reducible refine And.intro ?_ ?_) | exact True.intro | refine ACalls.pure h1.of ?_)
  refine R.cut [(3, .ptr H.length 1 0 0), (4, .ptr (H.length + 1) 1 0 0), (5, .ptr (H.length + 2) 1 0 0), (6, .ptr (H.length + 3) 1 0 0), (9, .int .i64 (tellF f g c))] (H ++ [.vec 1 [[.list (f.map encIns)]], .vec 1 [[.list (g.map encIns)]], .vec 11 [csC c], .vec 11 [[.int .i64 0, .int .i64 0, .int .i64 0, .int .i64 0, .int .i64 0, .int .i64 0, .int .i64 0, .int .i64 0, .imm (.slice none 0 0), .imm (.slice none 0 0), .int .i64 0]]]) ?_ ?_
  · repeat' (first | simp only [seval, evx, beq_self_eq_true, sb, ew, ec, List.map_nil, Nat.mul_one, CallA_fn2, csC_eq, encI_def, shH_eq, Nat.sub_zero, *] | simp (disch := omega) only [if_pos, if_neg] | refine R.seq ?_ | refine LCB.text ?_ | refine LCB.quiet rfl ?_ | refine R.anyX ?_ | refine R.block ?_ | refine LCB.skip ?_ | refine LCB.exit ?_ | refine LCB.ret ?_ | ((first | refine RetOk.val hcl ?_ | refine Weak.at hcl ?_); simp only [seval, evw, fm, sb, ew, ec, List.map_nil, Nat.mul_one, CallA_fn2, csC_eq, encI_def, shH_eq, Nat.sub_zero, *]) | ((first | refine LCB.cond (by simp only [seval, evx] <;> rfl) ?_ ?_ | refine wpG_split (by simp only [seval, evx] <;> rfl) ?_ ?_ | refine wxG_split (by simp only [seval, evx] <;> rfl) ?_ ?_) <;> (intro hc; try simp only [seval, nf] at hc)) | refine ACalls.inst ?_ | refine CallX.inst ?_ | (with_reducible refine And.intro ?_ ?_) | exact True.intro | refine ACalls.pure h1.of ?_)
  clear h1
  refine R.join (S := Unit) ⟨fun _ => [(3, .ptr H.length 1 0 0), (4, .ptr (H.length + 1) 1 0 0), (5, .ptr (H.length + 2) 1 0 0), (6, .ptr (H.length + 3) 1 0 0), (9, .int .i64 (tellF f g c))], fun _ => H ++ [.vec 1 [[.list (f.map encIns)]], .vec 1 [[.list (g.map encIns)]], .vec 11 [csC c], .vec 11 [[.int .i64 0, .int .i64 0, .int .i64 0, .int .i64 0, .int .i64 0, .int .i64 0, .int .i64 0, .int .i64 0, .imm (.slice none 0 0), .imm (.slice none 0 0), .int .i64 0]]], fun _ => True, fun _ => 0⟩ ?_ ?_
  · repeat' (first | simp only [seval, evx, beq_self_eq_true, sb, ew, ec, List.map_nil, Nat.mul_one, CallA_fn2, csC_eq, encI_def, shH_eq, Nat.sub_zero, *] | simp (disch := omega) only [if_pos, if_neg] | refine R.seq ?_ | refine LCB.text ?_ | refine LCB.quiet rfl ?_ | refine R.anyX ?_ | refine R.block ?_ | refine LCB.skip ?_ | refine LCB.exit ?_ | refine LCB.ret ?_ | ((first | refine RetOk.val hcl ?_ | refine Weak.at hcl ?_); simp only [seval, evw, fm, sb, ew, ec, List.map_nil, Nat.mul_one, CallA_fn2, csC_eq, encI_def, shH_eq, Nat.sub_zero, *]) | ((first | refine LCB.cond (by simp only [seval, evx] <;> rfl) ?_ ?_ | refine wpG_split (by simp only [seval, evx] <;> rfl) ?_ ?_ | refine wxG_split (by simp only [seval, evx] <;> rfl) ?_ ?_) <;> (intro hc; try simp only [seval, nf] at hc)) | refine ACalls.inst ?_ | refine CallX.inst ?_ | (with_reducible refine And.intro ?_ ?_) | exact True.intro)
    all_goals
      refine ⟨(), trivial, ?_⟩
      refine Weak.viewH hcl (by simp) (by simp) ?_ ?_
      · intro i o q g1 g2
        match i with
        | 0 => simp at g1 g2; subst g1; subst g2; exact .same (by simp only [seval, evw, fm, sb, ew, ec, List.map_nil, Nat.mul_one, CallA_fn2, csC_eq, encI_def, shH_eq, Nat.sub_zero, *])
        | 1 => simp at g1 g2; subst g1; subst g2; exact .same (by simp only [seval, evw, fm, sb, ew, ec, List.map_nil, Nat.mul_one, CallA_fn2, csC_eq, encI_def, shH_eq, Nat.sub_zero, *])
        | 2 => simp at g1 g2; subst g1; subst g2; exact .row (by simp [hil]) (by simp only [seval, evw, fm, sb, ew, ec, List.map_nil, Nat.mul_one, CallA_fn2, csC_eq, encI_def, shH_eq, Nat.sub_zero, *])
        | 3 => simp at g1 g2; subst g1; subst g2; exact .same (by simp only [seval, evw, fm, sb, ew, ec, List.map_nil, Nat.mul_one, CallA_fn2, csC_eq, encI_def, shH_eq, Nat.sub_zero, *])
        | n + 4 => simp at g2
      · simp only [seval, evw, fm, sb, ew, ec, List.map_nil, Nat.mul_one, CallA_fn2, csC_eq, encI_def, shH_eq, Nat.sub_zero, *]
  rintro ⟨⟩ -
  simp only
  clear b3 b4 b5 b6 b7 b8 b9 b10 rk1 rk2
  by_cases hk : tellF f g c = 0
  · have hres := hRES.of
    rw [if_pos hk] at hres
    rw [← hres]
    replace hRES := Hold.mk hRES
    replace hres := Hold.mk hres
    repeat' (first | simp only [seval, evx, beq_self_eq_true, sb, ew, ec, List.map_nil, Nat.mul_one, CallA_fn2, csC_eq, encI_def, shH_eq, Nat.sub_zero, *] | simp (disch := omega) only [if_pos, if_neg] | refine R.seq ?_ | refine LCB.text ?_ | refine LCB.quiet rfl ?_ | refine R.anyX ?_ | refine R.block ?_ | refine LCB.skip ?_ | refine LCB.exit ?_ | refine LCB.ret ?_ | ((first | refine RetOk.val hcl ?_ | refine Weak.at hcl ?_); simp only [seval, evw, fm, sb, ew, ec, List.map_nil, Nat.mul_one, CallA_fn2, csC_eq, encI_def, shH_eq, Nat.sub_zero, *]) | ((first | refine LCB.cond (by simp only [seval, evx] <;> rfl) ?_ ?_ | refine wpG_split (by simp only [seval, evx] <;> rfl) ?_ ?_ | refine wxG_split (by simp only [seval, evx] <;> rfl) ?_ ?_) <;> (intro hc; try simp only [seval, nf] at hc)) | refine ACalls.inst ?_ | refine CallX.inst ?_ | (with_reducible refine And.intro ?_ ?_) | exact True.intro | refine ACalls.pure h1.of ?_)
  have hres := hRES.of
  rw [if_neg hk] at hres
  have ht : tellsB f g c = true := tellsB_iff.2 hk
  replace hres := Hold.mk hres
  clear hRES
  replace ht := Hold.mk ht
  refine R.cut [(3, .ptr H.length 1 0 0), (4, .ptr (H.length + 1) 1 0 0), (5, .ptr (H.length + 2) 1 0 0), (6, .ptr (H.length + 3) 1 0 0)] (H ++ [.vec 1 [[.list (f.map encIns)]], .vec 1 [[.list (g.map encIns)]], .vec 11 [csC c], .vec 11 [[.int .i64 0, .int .i64 0, .int .i64 0, .int .i64 0, .int .i64 0, .int .i64 0, .int .i64 0, .int .i64 0, .imm (.slice none 0 0), .imm (.slice none 0 0), .int .i64 0]]]) ?_ ?_
  · repeat' (first | simp only [seval, evx, beq_self_eq_true, sb, ew, ec, List.map_nil, Nat.mul_one, CallA_fn2, csC_eq, encI_def, shH_eq, Nat.sub_zero, *] | simp (disch := omega) only [if_pos, if_neg] | refine R.seq ?_ | refine LCB.text ?_ | refine LCB.quiet rfl ?_ | refine R.anyX ?_ | refine R.block ?_ | refine LCB.skip ?_ | refine LCB.exit ?_ | refine LCB.ret ?_ | ((first | refine RetOk.val hcl ?_ | refine Weak.at hcl ?_); simp only [seval, evw, fm, sb, ew, ec, List.map_nil, Nat.mul_one, CallA_fn2, csC_eq, encI_def, shH_eq, Nat.sub_zero, *]) | ((first | refine LCB.cond (by simp only [seval, evx] <;> rfl) ?_ ?_ | refine wpG_split (by simp only [seval, evx] <;> rfl) ?_ ?_ | refine wxG_split (by simp only [seval, evx] <;> rfl) ?_ ?_) <;> (intro hc; try simp only [seval, nf] at hc)) | refine ACalls.inst ?_ | refine CallX.inst ?_ | (with_reducible refine And.intro ?_ ?_) | exact True.intro | refine ACalls.pure h1.of ?_)
  clear hk
  refine R.cut [(3, .ptr H.length 1 0 0), (4, .ptr (H.length + 1) 1 0 0), (5, .ptr (H.length + 2) 1 0 0), (6, .ptr (H.length + 3) 1 0 0), (11, .ptr (H.length + 4) 1 0 0)] (H ++ shH H.length f g c) ?_ ?_
  · repeat' (first | simp only [seval, evx, beq_self_eq_true, sb, ew, ec, List.map_nil, Nat.mul_one, CallA_fn2, csC_eq, encI_def, shH_eq, Nat.sub_zero, *] | simp (disch := omega) only [if_pos, if_neg] | refine R.seq ?_ | refine LCB.text ?_ | refine LCB.quiet rfl ?_ | refine R.anyX ?_ | refine R.block ?_ | refine LCB.skip ?_ | refine LCB.exit ?_ | refine LCB.ret ?_ | ((first | refine RetOk.val hcl ?_ | refine Weak.at hcl ?_); simp only [seval, evw, fm, sb, ew, ec, List.map_nil, Nat.mul_one, CallA_fn2, csC_eq, encI_def, shH_eq, Nat.sub_zero, *]) | ((first | refine LCB.cond (by simp only [seval, evx] <;> rfl) ?_ ?_ | refine wpG_split (by simp only [seval, evx] <;> rfl) ?_ ?_ | refine wxG_split (by simp only [seval, evx] <;> rfl) ?_ ?_) <;> (intro hc; try simp only [seval, nf] at hc)) | refine ACalls.inst ?_ | refine CallX.inst ?_ | (with_reducible refine And.intro ?_ ?_) | exact True.intro | refine ACalls.pure h1.of ?_)
  obtain ⟨g1, g2, g3⟩ := sh_fuel r3.of ht.of
  have hlf := least_fuel (H := H) hR.of r1.of r2.of r3.of ht.of
  simp only [shH_eq, csC_eq] at hlf
  have hfu : (shFuel f g c) = { c with fuel := (shFuel f g c).fuel } := rfl
  replace hlf := Hold.mk hlf
  refine R.cut [(3, .ptr H.length 1 0 0), (4, .ptr (H.length + 1) 1 0 0), (5, .ptr (H.length + 2) 1 0 0), (6, .ptr (H.length + 3) 1 0 0), (11, .ptr (H.length + 4) 1 0 0)] (H ++ shH H.length f g (shFuel f g c)) ?_ ?_
  · have f1 : (shFuel f g c).R = c.R := rfl
    have f2 : (shFuel f g c).heap = c.heap := rfl
    have f3 : (shFuel f g c).ans = c.ans := rfl
    clear g1 g2 g3 hfu
    repeat' (first | simp only [seval, evx, beq_self_eq_true, sb, ew, ec, List.map_nil, Nat.mul_one, CallA_fn2, csC_eq, encI_def, shH_eq, Nat.sub_zero, *] | simp (disch := omega) only [if_pos, if_neg] | refine R.seq ?_ | refine LCB.text ?_ | refine LCB.quiet rfl ?_ | refine R.anyX ?_ | refine R.block ?_ | refine LCB.skip ?_ | refine LCB.exit ?_ | refine LCB.ret ?_ | ((first | refine RetOk.val hcl ?_ | refine Weak.at hcl ?_); simp only [seval, evw, fm, sb, ew, ec, List.map_nil, Nat.mul_one, CallA_fn2, csC_eq, encI_def, shH_eq, Nat.sub_zero, *]) | ((first | refine LCB.cond (by simp only [seval, evx] <;> rfl) ?_ ?_ | refine wpG_split (by simp only [seval, evx] <;> rfl) ?_ ?_ | refine wxG_split (by simp only [seval, evx] <;> rfl) ?_ ?_) <;> (intro hc; try simp only [seval, nf] at hc)) | refine ACalls.inst ?_ | refine CallX.inst ?_ | (with_reducible refine And.intro ?_ ?_) | exact True.intro | refine ACalls.pure h1.of ?_)
    refine hlf.of.mono ?_
    rintro r' H' ⟨rfl, rfl⟩
    generalize (shFuel f g c).fuel = F2 at *
    repeat' (first | simp only [seval, evx, beq_self_eq_true, sb, ew, ec, List.map_nil, Nat.mul_one, CallA_fn2, csC_eq, encI_def, shH_eq, Nat.sub_zero, *] | simp (disch := omega) only [if_pos, if_neg] | refine R.seq ?_ | refine LCB.text ?_ | refine LCB.quiet rfl ?_ | refine R.anyX ?_ | refine R.block ?_ | refine LCB.skip ?_ | refine LCB.exit ?_ | refine LCB.ret ?_ | ((first | refine RetOk.val hcl ?_ | refine Weak.at hcl ?_); simp only [seval, evw, fm, sb, ew, ec, List.map_nil, Nat.mul_one, CallA_fn2, csC_eq, encI_def, shH_eq, Nat.sub_zero, *]) | ((first | refine LCB.cond (by simp only [seval, evx] <;> rfl) ?_ ?_ | refine wpG_split (by simp only [seval, evx] <;> rfl) ?_ ?_ | refine wxG_split (by simp only [seval, evx] <;> rfl) ?_ ?_) <;> (intro hc; try simp only [seval, nf] at hc)) | refine ACalls.inst ?_ | refine CallX.inst ?_ | (with_reducible refine And.intro ?_ ?_) | exact True.intro | refine ACalls.pure h1.of ?_)
  have hshr : shrunk f g c = shRegs f g (shHeap f g (shAns f g (shFuel f g c))) := rfl
  have hR1 : (shFuel f g c).R.length = 8 := hR.of
  have hres := hres.of
  rw [hshr] at hres
  clear hlf hfu hR r3 ht hshr
  clear hil
  generalize shFuel f g c = c1 at *
  have hla := least_ans (H := H) hR1 r1.of r2.of g1 g2
  simp only [shH_eq, csC_eq] at hla
  have hil : (ic c1.R).length = 8 := by rw [ic_len, hR1]
  have hnl := (leastN_spec (fun n => tellsB f g { c1 with ans := c1.ans.take n }) c1.ans.length).1
  have f1 : (shAns f g c1).R = c1.R := rfl
  have f2 : (shAns f g c1).heap = c1.heap := rfl
  have f3 : (shAns f g c1).ans.map encI = (c1.ans.map encI).take (leastN (fun n => tellsB f g { c1 with ans := c1.ans.take n }) c1.ans.length) := List.map_take
  have f4 : (shAns f g c1).fuel = c1.fuel := rfl
  obtain ⟨p1, p2⟩ := sh_ans g1 g2
  generalize leastN (fun n => tellsB f g { c1 with ans := c1.ans.take n }) c1.ans.length = n at *
  have e1 : (n : Int) ≤ (c1.ans.length : Int) := by omega
  have hne : c1.ans.map encI = [] ∨ ((c1.ans.map encI).headD []).length = 1 := by cases c1.ans <;> simp [encI]
  replace hla := Hold.mk hla
  replace hres := Hold.mk hres
  replace hnl := Hold.mk hnl
  replace g1 := Hold.mk g1
  replace g2 := Hold.mk g2
  replace g3 := Hold.mk g3
  replace p1 := Hold.mk p1
  replace p2 := Hold.mk p2
  refine R.cut [(3, .ptr H.length 1 0 0), (4, .ptr (H.length + 1) 1 0 0), (5, .ptr (H.length + 2) 1 0 0), (6, .ptr (H.length + 3) 1 0 0), (11, .ptr (H.length + 4) 1 0 0)] (H ++ shH H.length f g (shAns f g c1)) ?_ ?_
  · refine LCB.any ?_
    repeat' (first | simp only [wpP, wpPs, pureStep, seval, evo, evp, sb, ew, ec, List.map_nil, Nat.mul_one, CallA_fn2, csC_eq, encI_def, shH_eq, Nat.sub_zero, *] | (refine hla.of.mono ?_; rintro r' H' ⟨rfl, rfl⟩) | constructor)
    all_goals repeat' (first | simp only [seval, evx, beq_self_eq_true, sb, ew, ec, List.map_nil, Nat.mul_one, CallA_fn2, csC_eq, encI_def, shH_eq, Nat.sub_zero, *] | simp (disch := omega) only [if_pos, if_neg] | refine R.seq ?_ | refine LCB.text ?_ | refine LCB.quiet rfl ?_ | refine R.block ?_ | refine LCB.skip ?_ | refine LCB.exit ?_ | refine LCB.ret ?_ | ((first | refine RetOk.val hcl ?_ | refine Weak.at hcl ?_); simp only [seval, evw, fm, sb, ew, ec, List.map_nil, Nat.mul_one, CallA_fn2, csC_eq, encI_def, shH_eq, Nat.sub_zero, *]) | ((first | refine LCB.cond (by simp only [seval, evx] <;> rfl) ?_ ?_ | refine wpG_split (by simp only [seval, evx] <;> rfl) ?_ ?_ | refine wxG_split (by simp only [seval, evx] <;> rfl) ?_ ?_) <;> (intro hc; try simp only [seval, nf] at hc)) | refine ACalls.inst ?_ | refine CallX.inst ?_ | (with_reducible refine And.intro ?_ ?_) | exact True.intro | refine ACalls.pure h1.of ?_)
  have hR2 : (shAns f g c1).R.length = 8 := by rw [f1]; exact hR1
  clear hla hnl e1 hne f1 f2 f3 f4 g1 g2 g3 hil hR1
  generalize shAns f g c1 = c2 at *
  have hil : (ic c2.R).length = 8 := by rw [ic_len, hR2]
  have h0 : c2.heap.length ≤ 16 := (csRight_iff.1 p1.of).1
  have hdr : shHeap f g c2 = { c2 with heap := dropN (fun h => tellsB f g { c2 with heap := h }) c2.heap } := rfl
  replace hdr := Hold.mk hdr
  refine R.cut [(3, .ptr H.length 1 0 0), (4, .ptr (H.length + 1) 1 0 0), (5, .ptr (H.length + 2) 1 0 0), (6, .ptr (H.length + 3) 1 0 0), (11, .ptr (H.length + 4) 1 0 0)] (H ++ shH H.length f g (shHeap f g c2)) ?_ ?_
  · refine R.block (R.loop (S := List Int) ⟨fun _ => [(3, .ptr H.length 1 0 0), (4, .ptr (H.length + 1) 1 0 0), (5, .ptr (H.length + 2) 1 0 0), (6, .ptr (H.length + 3) 1 0 0), (11, .ptr (H.length + 4) 1 0 0)], fun h => H ++ shH H.length f g { c2 with heap := h },
      fun h => h.length ≤ 16 ∧ dropG (fun h => tellsB f g { c2 with heap := h }) h.length h = dropN (fun h => tellsB f g { c2 with heap := h }) c2.heap, fun h => h.length⟩ c2.heap ⟨h0, rfl⟩ (Weak.at hcl ?_) ?_)
    · simp only [seval, evw, fm, sb, ew, ec, List.map_nil, Nat.mul_one, CallA_fn2, csC_eq, encI_def, shH_eq, Nat.sub_zero, *]
    rintro h ⟨hl, hq⟩
    simp only at hl hq ⊢
    by_cases hz : h.length = 0
    · have e1 : ¬ (0 : Int) < (h.length : Int) := by omega
      rw [hz] at hq
      have hh : h = dropN (fun h => tellsB f g { c2 with heap := h }) c2.heap := hq
      have hc3 : shHeap f g c2 = { c2 with heap := h } := by rw [hdr.of, ← hh]
      rw [hc3]
      clear hq hh hc3
      repeat' (first | simp only [seval, evx, beq_self_eq_true, sb, ew, ec, List.map_nil, Nat.mul_one, CallA_fn2, csC_eq, encI_def, shH_eq, Nat.sub_zero, *] | simp (disch := omega) only [if_pos, if_neg] | refine R.seq ?_ | refine LCB.text ?_ | refine LCB.quiet rfl ?_ | refine R.block ?_ | refine LCB.skip ?_ | refine LCB.exit ?_ | refine LCB.ret ?_ | ((first | refine RetOk.val hcl ?_ | refine Weak.at hcl ?_); simp only [seval, evw, fm, sb, ew, ec, List.map_nil, Nat.mul_one, CallA_fn2, csC_eq, encI_def, shH_eq, Nat.sub_zero, *]) | ((first | refine LCB.cond (by simp only [seval, evx] <;> rfl) ?_ ?_ | refine wpG_split (by simp only [seval, evx] <;> rfl) ?_ ?_ | refine wxG_split (by simp only [seval, evx] <;> rfl) ?_ ?_) <;> (intro hc; try simp only [seval, nf] at hc)) | refine ACalls.inst ?_ | refine CallX.inst ?_ | (with_reducible refine And.intro ?_ ?_) | exact True.intro | refine ACalls.pure h1.of ?_)
    · obtain ⟨k, hk⟩ : ∃ k, h.length = k + 1 := ⟨h.length - 1, by omega⟩
      have e1 : (0 : Int) < (h.length : Int) := by omega
      have e2 : IntKind.i64.wrap ((h.length : Int) - 1) = ((h.length - 1 : Nat) : Int) := by rw [IntKind.wrap_i64]; omega
      have e3 : ((h.length - 1 : Nat) : Int) ≤ (h.length : Int) := by omega
      have hne : h.map encI = [] ∨ ((h.map encI).headD []).length = 1 := by cases h <;> simp [encI]
      rw [hk, dropG, if_neg (by omega)] at hq
      have hcr : csRight { c2 with heap := h.take (h.length - 1) } = true := by
        obtain ⟨k1, k2, k3, k4⟩ := csRight_iff.1 p1.of
        exact csRight_iff.2 ⟨by show (h.take (h.length - 1)).length ≤ 16; rw [List.length_take]; omega, k2, k3, k4⟩
      have hcall := fun (M : List AObj) => shrink_tells_ok (G := (H ++ shH H.length f g { c2 with heap := h }) ++ M) f g { c2 with heap := h.take (h.length - 1) } H.length (H.length + 1)
        (by rw [List.getElem?_append_left (by simp [shH])]; exact (shMem H f g _).f) (by rw [List.getElem?_append_left (by simp [shH])]; exact (shMem H f g _).g) hR2 r1.of r2.of hcr
      simp only [shH_eq, csC_eq, List.map_take, List.append_assoc, List.cons_append, List.nil_append] at hcall
      have hlk : (h.take (h.length - 1)).length = k := by rw [List.length_take]; omega
      cases hp : tellsB f g { c2 with heap := h.take (h.length - 1) }
      · rw [if_neg (by rw [hp]; simp)] at hq
        have hc3 : shHeap f g c2 = { c2 with heap := h } := by rw [hdr.of, ← hq]
        rw [hc3]
        rw [hp] at hcall
        clear hq hc3 hp hcr hlk hk
        replace hcall := Hold.mk hcall
        repeat' (first | simp only [seval, evx, beq_self_eq_true, sb, ew, ec, List.map_nil, Nat.mul_one, CallA_fn2, csC_eq, encI_def, shH_eq, Nat.sub_zero, *] | simp (disch := omega) only [if_pos, if_neg] | refine R.seq ?_ | refine LCB.text ?_ | refine LCB.quiet rfl ?_ | refine R.block ?_ | refine LCB.skip ?_ | refine LCB.exit ?_ | refine LCB.ret ?_ | ((first | refine RetOk.val hcl ?_ | refine Weak.at hcl ?_); simp only [seval, evw, fm, sb, ew, ec, List.map_nil, Nat.mul_one, CallA_fn2, csC_eq, encI_def, shH_eq, Nat.sub_zero, *]) | ((first | refine LCB.cond (by simp only [seval, evx] <;> rfl) ?_ ?_ | refine wpG_split (by simp only [seval, evx] <;> rfl) ?_ ?_ | refine wxG_split (by simp only [seval, evx] <;> rfl) ?_ ?_) <;> (intro hc; try simp only [seval, nf] at hc)) | refine ACalls.inst ?_ | refine CallX.inst ?_ | (with_reducible refine And.intro ?_ ?_) | exact True.intro | refine ACalls.pure h1.of ?_)
        refine (hcall.of _).mono ?_
        rintro r' H' ⟨rfl, rfl⟩
        repeat' (first | simp only [seval, evx, beq_self_eq_true, sb, ew, ec, List.map_nil, Nat.mul_one, CallA_fn2, csC_eq, encI_def, shH_eq, Nat.sub_zero, *] | simp (disch := omega) only [if_pos, if_neg] | refine R.seq ?_ | refine LCB.text ?_ | refine LCB.quiet rfl ?_ | refine R.block ?_ | refine LCB.skip ?_ | refine LCB.exit ?_ | refine LCB.ret ?_ | ((first | refine RetOk.val hcl ?_ | refine Weak.at hcl ?_); simp only [seval, evw, fm, sb, ew, ec, List.map_nil, Nat.mul_one, CallA_fn2, csC_eq, encI_def, shH_eq, Nat.sub_zero, *]) | ((first | refine LCB.cond (by simp only [seval, evx] <;> rfl) ?_ ?_ | refine wpG_split (by simp only [seval, evx] <;> rfl) ?_ ?_ | refine wxG_split (by simp only [seval, evx] <;> rfl) ?_ ?_) <;> (intro hc; try simp only [seval, nf] at hc)) | refine ACalls.inst ?_ | refine CallX.inst ?_ | (with_reducible refine And.intro ?_ ?_) | exact True.intro | refine ACalls.pure h1.of ?_)
      · rw [if_pos hp] at hq
        rw [hp] at hcall
        have hq2 : dropG (fun h => tellsB f g { c2 with heap := h }) (h.take (h.length - 1)).length (h.take (h.length - 1)) = dropN (fun h => tellsB f g { c2 with heap := h }) c2.heap := by rw [hlk]; exact hq
        clear hq hp hcr
        replace hcall := Hold.mk hcall
        replace hq2 := Hold.mk hq2
        replace hlk := Hold.mk hlk
        replace hk := Hold.mk hk
        repeat' (first | simp only [seval, evx, beq_self_eq_true, sb, ew, ec, List.map_nil, Nat.mul_one, CallA_fn2, csC_eq, encI_def, shH_eq, Nat.sub_zero, *] | simp (disch := omega) only [if_pos, if_neg] | refine R.seq ?_ | refine LCB.text ?_ | refine LCB.quiet rfl ?_ | refine R.block ?_ | refine LCB.skip ?_ | refine LCB.exit ?_ | refine LCB.ret ?_ | ((first | refine RetOk.val hcl ?_ | refine Weak.at hcl ?_); simp only [seval, evw, fm, sb, ew, ec, List.map_nil, Nat.mul_one, CallA_fn2, csC_eq, encI_def, shH_eq, Nat.sub_zero, *]) | ((first | refine LCB.cond (by simp only [seval, evx] <;> rfl) ?_ ?_ | refine wpG_split (by simp only [seval, evx] <;> rfl) ?_ ?_ | refine wxG_split (by simp only [seval, evx] <;> rfl) ?_ ?_) <;> (intro hc; try simp only [seval, nf] at hc)) | refine ACalls.inst ?_ | refine CallX.inst ?_ | (with_reducible refine And.intro ?_ ?_) | exact True.intro | refine ACalls.pure h1.of ?_)
        refine (hcall.of _).mono ?_
        rintro r' H' ⟨rfl, rfl⟩
        repeat' (first | simp only [seval, evx, beq_self_eq_true, sb, ew, ec, List.map_nil, Nat.mul_one, CallA_fn2, csC_eq, encI_def, shH_eq, Nat.sub_zero, *] | simp (disch := omega) only [if_pos, if_neg] | refine R.seq ?_ | refine LCB.text ?_ | refine LCB.quiet rfl ?_ | refine R.block ?_ | refine LCB.skip ?_ | refine LCB.exit ?_ | refine LCB.ret ?_ | ((first | refine RetOk.val hcl ?_ | refine Weak.at hcl ?_); simp only [seval, evw, fm, sb, ew, ec, List.map_nil, Nat.mul_one, CallA_fn2, csC_eq, encI_def, shH_eq, Nat.sub_zero, *]) | ((first | refine LCB.cond (by simp only [seval, evx] <;> rfl) ?_ ?_ | refine wpG_split (by simp only [seval, evx] <;> rfl) ?_ ?_ | refine wxG_split (by simp only [seval, evx] <;> rfl) ?_ ?_) <;> (intro hc; try simp only [seval, nf] at hc)) | refine ACalls.inst ?_ | refine CallX.inst ?_ | (with_reducible refine And.intro ?_ ?_) | exact True.intro | refine ACalls.pure h1.of ?_)
        refine ⟨h.take (h.length - 1), ⟨by rw [List.length_take]; omega, hq2.of⟩, by simp only [List.length_take]; omega, Weak.at hcl ?_⟩
        have t9 : (h.take (h.length - 1)).map encI = (h.map encI).take (h.length - 1) := List.map_take
        simp only [seval, evw, fm, sb, ew, ec, List.map_nil, Nat.mul_one, CallA_fn2, csC_eq, encI_def, shH_eq, Nat.sub_zero, *]
  obtain ⟨w1, w2, -⟩ := sh_heap p1.of p2.of
  have hR3 : (shHeap f g c2).R.length = 8 := by rw [hdr.of]; exact hR2
  clear hdr h0 hil hR2 p1 p2
  generalize shHeap f g c2 = c3 at *
  obtain ⟨x1, x2, x3, -⟩ := sh_regs w1 w2
  have hdr : shRegs f g c3 = { c3 with R := zeroN (fun R => tellsB f g { c3 with R := R }) c3.R (List.range 8) } := rfl
  replace hdr := Hold.mk hdr
  replace w1 := Hold.mk w1
  replace w2 := Hold.mk w2
  replace x1 := Hold.mk x1
  replace x2 := Hold.mk x2
  replace x3 := Hold.mk x3
  refine R.cut [(3, .ptr H.length 1 0 0), (4, .ptr (H.length + 1) 1 0 0), (5, .ptr (H.length + 2) 1 0 0), (6, .ptr (H.length + 3) 1 0 0)] (H ++ shH H.length f g (shRegs f g c3)) ?_ ?_
  · have hil : (ic c3.R).length = 8 := by rw [ic_len, hR3]
    (refine R.seq ?_; refine LCB.text ?_; repeat' (first | simp only [seval, evx, beq_self_eq_true, sb, ew, ec, List.map_nil, Nat.mul_one, CallA_fn2, csC_eq, encI_def, shH_eq, Nat.sub_zero, *] | simp (disch := omega) only [if_pos, if_neg]))
    refine R.block (R.loop (S := Nat × List Int) ⟨fun y => [(3, .ptr H.length 1 0 0), (4, .ptr (H.length + 1) 1 0 0), (5, .ptr (H.length + 2) 1 0 0), (6, .ptr (H.length + 3) 1 0 0), (11, .ptr (H.length + 4) 1 0 0), (73, .int .i64 (y.1 : Int))], fun y => H ++ shH H.length f g { c3 with R := y.2 },
      fun y => y.1 ≤ 8 ∧ y.2.length = 8 ∧ zeroN (fun R => tellsB f g { c3 with R := R }) y.2 ((List.range 8).drop y.1) = zeroN (fun R => tellsB f g { c3 with R := R }) c3.R (List.range 8), fun y => 8 - y.1⟩ (0, c3.R) ⟨Nat.zero_le _, hR3, rfl⟩ (Weak.at hcl ?_) ?_)
    · simp only [seval, evw, fm, sb, ew, ec, List.map_nil, Nat.mul_one, CallA_fn2, csC_eq, encI_def, shH_eq, Nat.sub_zero, *]
    rintro ⟨i, R'⟩ ⟨hi, hRl, hq⟩
    simp only at hi hRl hq ⊢
    clear hil
    have hil : (ic R').length = 8 := by rw [ic_len, hRl]
    by_cases hlt : i < 8
    · have e1 : (i : Int) < 8 := by omega
      have e2 : (i : Int) < ((8 : Nat) : Int) := by omega
      have e3 : IntKind.i64.wrap ((i : Int) + 1) = ((i + 1 : Nat) : Int) := by rw [IntKind.wrap_i64]; omega
      have e4 : i + 1 ≤ 11 := by omega
      have hd : (List.range 8).drop i = i :: (List.range 8).drop (i + 1) := by
        rw [List.drop_eq_getElem_cons (by simpa using hlt)]
        simp
      rw [hd] at hq
      have hq1 : zeroN (fun R => tellsB f g { c3 with R := R }) (if tellsB f g { c3 with R := R'.set i 0 } then R'.set i 0 else R') ((List.range 8).drop (i + 1)) = zeroN (fun R => tellsB f g { c3 with R := R }) c3.R (List.range 8) := hq
      have s1 := ic_set (R := R') (r := [.list (c3.heap.map encI), .list (c3.ans.map encI), .int .i64 c3.fuel]) (i := i) (v := 0) (by omega)
      have s2 := ic_set2 (R := R') (r := [.list (c3.heap.map encI), .list (c3.ans.map encI), .int .i64 c3.fuel]) (i := i) (v := 0) (by omega)
      have hil3 : (ic (R'.set i 0)).length = 8 := by rw [ic_len, List.length_set, hRl]
      have hrl2 : (R'.set i 0).length = 8 := by rw [List.length_set, hRl]
      have hcall := fun (M : List AObj) => shrink_tells_ok (G := (H ++ shH H.length f g { c3 with R := R' }) ++ M) f g { c3 with R := R'.set i 0 } H.length (H.length + 1)
        (by rw [List.getElem?_append_left (by simp [shH])]; exact (shMem H f g _).f) (by rw [List.getElem?_append_left (by simp [shH])]; exact (shMem H f g _).g) hrl2 r1.of r2.of w1.of
      simp only [shH_eq, csC_eq, List.append_assoc, List.cons_append, List.nil_append] at hcall
      clear hq hd
      cases hp : tellsB f g { c3 with R := R'.set i 0 }
      · rw [if_neg (by rw [hp]; simp)] at hq1
        rw [hp] at hcall
        clear hp
        replace hcall := Hold.mk hcall
        replace hq1 := Hold.mk hq1
        repeat' (first | simp only [seval, evx, beq_self_eq_true, sb, ew, ec, List.map_nil, Nat.mul_one, CallA_fn2, csC_eq, encI_def, shH_eq, Nat.sub_zero, *] | simp (disch := omega) only [if_pos, if_neg] | refine R.seq ?_ | refine LCB.text ?_ | refine LCB.quiet rfl ?_ | refine R.block ?_ | refine LCB.skip ?_ | refine LCB.exit ?_ | refine LCB.ret ?_ | ((first | refine RetOk.val hcl ?_ | refine Weak.at hcl ?_); simp only [seval, evw, fm, sb, ew, ec, List.map_nil, Nat.mul_one, CallA_fn2, csC_eq, encI_def, shH_eq, Nat.sub_zero, *]) | ((first | refine LCB.cond (by simp only [seval, evx] <;> rfl) ?_ ?_ | refine wpG_split (by simp only [seval, evx] <;> rfl) ?_ ?_ | refine wxG_split (by simp only [seval, evx] <;> rfl) ?_ ?_) <;> (intro hc; try simp only [seval, nf] at hc)) | refine ACalls.inst ?_ | refine CallX.inst ?_ | (with_reducible refine And.intro ?_ ?_) | exact True.intro | refine ACalls.pure h1.of ?_)
        refine (hcall.of _).mono ?_
        rintro r' H' ⟨rfl, rfl⟩
        repeat' (first | simp only [seval, evx, beq_self_eq_true, sb, ew, ec, List.map_nil, Nat.mul_one, CallA_fn2, csC_eq, encI_def, shH_eq, Nat.sub_zero, *] | simp (disch := omega) only [if_pos, if_neg] | refine R.seq ?_ | refine LCB.text ?_ | refine LCB.quiet rfl ?_ | refine R.block ?_ | refine LCB.skip ?_ | refine LCB.exit ?_ | refine LCB.ret ?_ | ((first | refine RetOk.val hcl ?_ | refine Weak.at hcl ?_); simp only [seval, evw, fm, sb, ew, ec, List.map_nil, Nat.mul_one, CallA_fn2, csC_eq, encI_def, shH_eq, Nat.sub_zero, *]) | ((first | refine LCB.cond (by simp only [seval, evx] <;> rfl) ?_ ?_ | refine wpG_split (by simp only [seval, evx] <;> rfl) ?_ ?_ | refine wxG_split (by simp only [seval, evx] <;> rfl) ?_ ?_) <;> (intro hc; try simp only [seval, nf] at hc)) | refine ACalls.inst ?_ | refine CallX.inst ?_ | (with_reducible refine And.intro ?_ ?_) | exact True.intro | refine ACalls.pure h1.of ?_)
        refine ⟨(i + 1, R'), ⟨hlt, hRl, hq1.of⟩, by simp only; omega, Weak.at hcl ?_⟩
        simp only [seval, evw, fm, sb, ew, ec, List.map_nil, Nat.mul_one, CallA_fn2, csC_eq, encI_def, shH_eq, Nat.sub_zero, *]
      · rw [if_pos hp] at hq1
        rw [hp] at hcall
        clear hp
        replace hcall := Hold.mk hcall
        replace hq1 := Hold.mk hq1
        repeat' (first | simp only [seval, evx, beq_self_eq_true, sb, ew, ec, List.map_nil, Nat.mul_one, CallA_fn2, csC_eq, encI_def, shH_eq, Nat.sub_zero, *] | simp (disch := omega) only [if_pos, if_neg] | refine R.seq ?_ | refine LCB.text ?_ | refine LCB.quiet rfl ?_ | refine R.block ?_ | refine LCB.skip ?_ | refine LCB.exit ?_ | refine LCB.ret ?_ | ((first | refine RetOk.val hcl ?_ | refine Weak.at hcl ?_); simp only [seval, evw, fm, sb, ew, ec, List.map_nil, Nat.mul_one, CallA_fn2, csC_eq, encI_def, shH_eq, Nat.sub_zero, *]) | ((first | refine LCB.cond (by simp only [seval, evx] <;> rfl) ?_ ?_ | refine wpG_split (by simp only [seval, evx] <;> rfl) ?_ ?_ | refine wxG_split (by simp only [seval, evx] <;> rfl) ?_ ?_) <;> (intro hc; try simp only [seval, nf] at hc)) | refine ACalls.inst ?_ | refine CallX.inst ?_ | (with_reducible refine And.intro ?_ ?_) | exact True.intro | refine ACalls.pure h1.of ?_)
        refine (hcall.of _).mono ?_
        rintro r' H' ⟨rfl, rfl⟩
        repeat' (first | simp only [seval, evx, beq_self_eq_true, sb, ew, ec, List.map_nil, Nat.mul_one, CallA_fn2, csC_eq, encI_def, shH_eq, Nat.sub_zero, *] | simp (disch := omega) only [if_pos, if_neg] | refine R.seq ?_ | refine LCB.text ?_ | refine LCB.quiet rfl ?_ | refine R.block ?_ | refine LCB.skip ?_ | refine LCB.exit ?_ | refine LCB.ret ?_ | ((first | refine RetOk.val hcl ?_ | refine Weak.at hcl ?_); simp only [seval, evw, fm, sb, ew, ec, List.map_nil, Nat.mul_one, CallA_fn2, csC_eq, encI_def, shH_eq, Nat.sub_zero, *]) | ((first | refine LCB.cond (by simp only [seval, evx] <;> rfl) ?_ ?_ | refine wpG_split (by simp only [seval, evx] <;> rfl) ?_ ?_ | refine wxG_split (by simp only [seval, evx] <;> rfl) ?_ ?_) <;> (intro hc; try simp only [seval, nf] at hc)) | refine ACalls.inst ?_ | refine CallX.inst ?_ | (with_reducible refine And.intro ?_ ?_) | exact True.intro | refine ACalls.pure h1.of ?_)
        refine ⟨(i + 1, R'.set i 0), ⟨hlt, hrl2, hq1.of⟩, by simp only; omega, Weak.at hcl ?_⟩
        simp only [seval, evw, fm, sb, ew, ec, List.map_nil, Nat.mul_one, CallA_fn2, csC_eq, encI_def, shH_eq, Nat.sub_zero, *]
    · have hie : i = 8 := by omega
      subst hie
      have e1 : ¬ ((8 : Nat) : Int) < 8 := by omega
      have hh : R' = zeroN (fun R => tellsB f g { c3 with R := R }) c3.R (List.range 8) := by rw [← hq]; rfl
      have hc3 : shRegs f g c3 = { c3 with R := R' } := by rw [hdr.of, ← hh]
      rw [hc3]
      clear hq hh hc3
      repeat' (first | simp only [seval, evx, beq_self_eq_true, sb, ew, ec, List.map_nil, Nat.mul_one, CallA_fn2, csC_eq, encI_def, shH_eq, Nat.sub_zero, *] | simp (disch := omega) only [if_pos, if_neg] | refine R.seq ?_ | refine LCB.text ?_ | refine LCB.quiet rfl ?_ | refine R.block ?_ | refine LCB.skip ?_ | refine LCB.exit ?_ | refine LCB.ret ?_ | ((first | refine RetOk.val hcl ?_ | refine Weak.at hcl ?_); simp only [seval, evw, fm, sb, ew, ec, List.map_nil, Nat.mul_one, CallA_fn2, csC_eq, encI_def, shH_eq, Nat.sub_zero, *]) | ((first | refine LCB.cond (by simp only [seval, evx] <;> rfl) ?_ ?_ | refine wpG_split (by simp only [seval, evx] <;> rfl) ?_ ?_ | refine wxG_split (by simp only [seval, evx] <;> rfl) ?_ ?_) <;> (intro hc; try simp only [seval, nf] at hc)) | refine ACalls.inst ?_ | refine CallX.inst ?_ | (with_reducible refine And.intro ?_ ?_) | exact True.intro | refine ACalls.pure h1.of ?_)
  have hil : (ic (shRegs f g c3).R).length = 8 := by rw [ic_len, x3.of, hR3]
  have hn := differ_Tell_ok f g (shRegs f g c3) (by rw [x3.of, hR3]) hf hg
  rw [tellA_yes r1.of r2.of x1.of, csA_eq] at hn
  unfold encFn at hn
  have h1 := Hold.mk hn
  clear hn
  have hres := hres.of
  rw [← hres, csA_eq]
  replace hres := Hold.mk hres
  repeat' (first | simp only [seval, evx, beq_self_eq_true, sb, ew, ec, List.map_nil, Nat.mul_one, CallA_fn2, csC_eq, encI_def, shH_eq, Nat.sub_zero, *] | simp (disch := omega) only [if_pos, if_neg] | refine R.seq ?_ | refine LCB.text ?_ | refine LCB.quiet rfl ?_ | refine R.anyX ?_ | refine R.block ?_ | refine LCB.skip ?_ | refine LCB.exit ?_ | refine LCB.ret ?_ | ((first | refine RetOk.val hcl ?_ | refine Weak.at hcl ?_); simp only [seval, evw, fm, sb, ew, ec, List.map_nil, Nat.mul_one, CallA_fn2, csC_eq, encI_def, shH_eq, Nat.sub_zero, *]) | ((first | refine LCB.cond (by simp only [seval, evx] <;> rfl) ?_ ?_ | refine wpG_split (by simp only [seval, evx] <;> rfl) ?_ ?_ | refine wxG_split (by simp only [seval, evx] <;> rfl) ?_ ?_) <;> (intro hc; try simp only [seval, nf] at hc)) | refine ACalls.inst ?_ | refine CallX.inst ?_ | (with_reducible refine And.intro ?_ ?_) | exact True.intro | refine ACalls.pure h1.of ?_)
end Go.Proofs.YtphmakopjfbmnaaDoor
namespace Go.Proofs.YtphmakopjfbmnaaDoor
open Go.RowKit
set_option linter.unusedVariables false
set_option linter.unusedSimpArgs false
def csGreat20 (f g : List Ins) (c : Cs) : Bool := csGreat f c || (csGreat g c || (decide (60 < f.length) || (decide (60 < g.length) || ((decide (200 < c.fuel) && decide (c.fuel ≤ 5000)) || decide (200 < c.ans.length)))))
theorem great20_not {f g : List Ins} {c : Cs} (h : ¬ csGreat20 f g c = true) : f.length ≤ 60 ∧ g.length ≤ 60 ∧ c.heap.length ≤ 100 ∧ c.ans.length ≤ 200 ∧ (c.fuel ≤ 200 ∨ 5000 < c.fuel) := by
  unfold csGreat20 csGreat at h
  simp only [Bool.or_eq_true, Bool.and_eq_true, decide_eq_true_eq, not_or, not_and] at h
  obtain ⟨⟨h1, h2, h3, h4⟩, h5, h6, h7, h8, h9⟩ := h
  refine ⟨by omega, by omega, by omega, by omega, ?_⟩
  by_cases hx : 200 < c.fuel
  · have := h8 hx
    omega
  · omega
set_option maxHeartbeats 4000000 in
theorem law20_great_ok (f g : List Ins) (c : Cs) (hR : c.R.length = 8) : Pure Tryd.prog 7 [encFn f, encFn g, csA c] (.bool (csGreat20 f g c)) := by
  intro H
  refine ACalls.go joinerylaw20_great.low (by simp) fun hcl => ?_
  have hil : (ic c.R).length = 8 := by rw [ic_len, hR]
  have h1 := law08_Great_ok f c hR
  have h2 := law08_Great_ok g c hR
  have hr : csGreat20 f g c = (csGreat f c || (csGreat g c || (decide ((60 : Int) < (f.length : Int)) || (decide ((60 : Int) < (g.length : Int)) || ((decide (200 < c.fuel) && decide (c.fuel ≤ 5000)) || decide ((200 : Int) < (c.ans.length : Int))))))) := by
    unfold csGreat20
    rw [show decide (60 < f.length) = decide ((60 : Int) < (f.length : Int)) from decide_eq_decide.2 (by omega), show decide (60 < g.length) = decide ((60 : Int) < (g.length : Int)) from decide_eq_decide.2 (by omega), show decide (200 < c.ans.length) = decide ((200 : Int) < (c.ans.length : Int)) from decide_eq_decide.2 (by omega)]
  rw [hr]
  rw [csA_eq] at *
  unfold encFn at *
  generalize csGreat f c = b1 at *
  generalize csGreat g c = b2 at *
  replace hr := Hold.mk hr
  replace hR := Hold.mk hR
  replace h1 := Hold.mk h1
  replace h2 := Hold.mk h2
  cases b1
  case true => repeat' (first | simp only [seval, evx, beq_self_eq_true, sb, ew, ec, List.map_nil, List.length_nil, beq_self_eq_true, *] | simp (disch := omega) only [if_pos, if_neg] | refine R.seq ?_ | refine LCB.text ?_ | refine LCB.quiet rfl ?_ | refine R.anyX ?_ | refine R.block ?_ | refine LCB.skip ?_ | refine LCB.exit ?_ | refine LCB.ret ?_ | ((first | refine RetOk.val hcl ?_ | refine Weak.at hcl ?_); simp only [seval, evw, fm, sb, ew, ec, List.map_nil, List.length_nil, beq_self_eq_true, *]) | ((first | refine LCB.cond (by simp only [seval, evx] <;> rfl) ?_ ?_ | refine wpG_split (by simp only [seval, evx] <;> rfl) ?_ ?_ | refine wxG_split (by simp only [seval, evx] <;> rfl) ?_ ?_) <;> (intro hc; try simp only [seval, nf] at hc)) | refine ACalls.inst ?_ | refine CallX.inst ?_ | (with_reducible refine And.intro ?_ ?_) | exact True.intro | refine ACalls.pure h1.of ?_ | refine CallX.pure h1.of ?_ | refine ACalls.pure h2.of ?_ | refine CallX.pure h2.of ?_)
  cases b2
  case true => repeat' (first | simp only [seval, evx, beq_self_eq_true, sb, ew, ec, List.map_nil, List.length_nil, beq_self_eq_true, *] | simp (disch := omega) only [if_pos, if_neg] | refine R.seq ?_ | refine LCB.text ?_ | refine LCB.quiet rfl ?_ | refine R.anyX ?_ | refine R.block ?_ | refine LCB.skip ?_ | refine LCB.exit ?_ | refine LCB.ret ?_ | ((first | refine RetOk.val hcl ?_ | refine Weak.at hcl ?_); simp only [seval, evw, fm, sb, ew, ec, List.map_nil, List.length_nil, beq_self_eq_true, *]) | ((first | refine LCB.cond (by simp only [seval, evx] <;> rfl) ?_ ?_ | refine wpG_split (by simp only [seval, evx] <;> rfl) ?_ ?_ | refine wxG_split (by simp only [seval, evx] <;> rfl) ?_ ?_) <;> (intro hc; try simp only [seval, nf] at hc)) | refine ACalls.inst ?_ | refine CallX.inst ?_ | (with_reducible refine And.intro ?_ ?_) | exact True.intro | refine ACalls.pure h1.of ?_ | refine CallX.pure h1.of ?_ | refine ACalls.pure h2.of ?_ | refine CallX.pure h2.of ?_)
  by_cases k1 : (60 : Int) < (f.length : Int)
  case pos => repeat' (first | simp only [seval, evx, beq_self_eq_true, sb, ew, ec, List.map_nil, List.length_nil, beq_self_eq_true, *] | simp (disch := omega) only [if_pos, if_neg] | refine R.seq ?_ | refine LCB.text ?_ | refine LCB.quiet rfl ?_ | refine R.anyX ?_ | refine R.block ?_ | refine LCB.skip ?_ | refine LCB.exit ?_ | refine LCB.ret ?_ | ((first | refine RetOk.val hcl ?_ | refine Weak.at hcl ?_); simp only [seval, evw, fm, sb, ew, ec, List.map_nil, List.length_nil, beq_self_eq_true, *]) | ((first | refine LCB.cond (by simp only [seval, evx] <;> rfl) ?_ ?_ | refine wpG_split (by simp only [seval, evx] <;> rfl) ?_ ?_ | refine wxG_split (by simp only [seval, evx] <;> rfl) ?_ ?_) <;> (intro hc; try simp only [seval, nf] at hc)) | refine ACalls.inst ?_ | refine CallX.inst ?_ | (with_reducible refine And.intro ?_ ?_) | exact True.intro | refine ACalls.pure h1.of ?_ | refine CallX.pure h1.of ?_ | refine ACalls.pure h2.of ?_ | refine CallX.pure h2.of ?_)
  by_cases k2 : (60 : Int) < (g.length : Int)
  case pos => repeat' (first | simp only [seval, evx, beq_self_eq_true, sb, ew, ec, List.map_nil, List.length_nil, beq_self_eq_true, *] | simp (disch := omega) only [if_pos, if_neg] | refine R.seq ?_ | refine LCB.text ?_ | refine LCB.quiet rfl ?_ | refine R.anyX ?_ | refine R.block ?_ | refine LCB.skip ?_ | refine LCB.exit ?_ | refine LCB.ret ?_ | ((first | refine RetOk.val hcl ?_ | refine Weak.at hcl ?_); simp only [seval, evw, fm, sb, ew, ec, List.map_nil, List.length_nil, beq_self_eq_true, *]) | ((first | refine LCB.cond (by simp only [seval, evx] <;> rfl) ?_ ?_ | refine wpG_split (by simp only [seval, evx] <;> rfl) ?_ ?_ | refine wxG_split (by simp only [seval, evx] <;> rfl) ?_ ?_) <;> (intro hc; try simp only [seval, nf] at hc)) | refine ACalls.inst ?_ | refine CallX.inst ?_ | (with_reducible refine And.intro ?_ ?_) | exact True.intro | refine ACalls.pure h1.of ?_ | refine CallX.pure h1.of ?_ | refine ACalls.pure h2.of ?_ | refine CallX.pure h2.of ?_)
  by_cases k3 : 200 < c.fuel
  case neg => repeat' (first | simp only [seval, evx, beq_self_eq_true, sb, ew, ec, List.map_nil, List.length_nil, beq_self_eq_true, *] | simp (disch := omega) only [if_pos, if_neg] | refine R.seq ?_ | refine LCB.text ?_ | refine LCB.quiet rfl ?_ | refine R.anyX ?_ | refine R.block ?_ | refine LCB.skip ?_ | refine LCB.exit ?_ | refine LCB.ret ?_ | ((first | refine RetOk.val hcl ?_ | refine Weak.at hcl ?_); simp only [seval, evw, fm, sb, ew, ec, List.map_nil, List.length_nil, beq_self_eq_true, *]) | ((first | refine LCB.cond (by simp only [seval, evx] <;> rfl) ?_ ?_ | refine wpG_split (by simp only [seval, evx] <;> rfl) ?_ ?_ | refine wxG_split (by simp only [seval, evx] <;> rfl) ?_ ?_) <;> (intro hc; try simp only [seval, nf] at hc)) | refine ACalls.inst ?_ | refine CallX.inst ?_ | (with_reducible refine And.intro ?_ ?_) | exact True.intro | refine ACalls.pure h1.of ?_ | refine CallX.pure h1.of ?_ | refine ACalls.pure h2.of ?_ | refine CallX.pure h2.of ?_)
  by_cases k4 : c.fuel ≤ 5000
  case neg => repeat' (first | simp only [seval, evx, beq_self_eq_true, sb, ew, ec, List.map_nil, List.length_nil, beq_self_eq_true, *] | simp (disch := omega) only [if_pos, if_neg] | refine R.seq ?_ | refine LCB.text ?_ | refine LCB.quiet rfl ?_ | refine R.anyX ?_ | refine R.block ?_ | refine LCB.skip ?_ | refine LCB.exit ?_ | refine LCB.ret ?_ | ((first | refine RetOk.val hcl ?_ | refine Weak.at hcl ?_); simp only [seval, evw, fm, sb, ew, ec, List.map_nil, List.length_nil, beq_self_eq_true, *]) | ((first | refine LCB.cond (by simp only [seval, evx] <;> rfl) ?_ ?_ | refine wpG_split (by simp only [seval, evx] <;> rfl) ?_ ?_ | refine wxG_split (by simp only [seval, evx] <;> rfl) ?_ ?_) <;> (intro hc; try simp only [seval, nf] at hc)) | refine ACalls.inst ?_ | refine CallX.inst ?_ | (with_reducible refine And.intro ?_ ?_) | exact True.intro | refine ACalls.pure h1.of ?_ | refine CallX.pure h1.of ?_ | refine ACalls.pure h2.of ?_ | refine CallX.pure h2.of ?_)
  repeat' (first | simp only [seval, evx, beq_self_eq_true, sb, ew, ec, List.map_nil, List.length_nil, beq_self_eq_true, *] | simp (disch := omega) only [if_pos, if_neg] | refine R.seq ?_ | refine LCB.text ?_ | refine LCB.quiet rfl ?_ | refine R.anyX ?_ | refine R.block ?_ | refine LCB.skip ?_ | refine LCB.exit ?_ | refine LCB.ret ?_ | ((first | refine RetOk.val hcl ?_ | refine Weak.at hcl ?_); simp only [seval, evw, fm, sb, ew, ec, List.map_nil, List.length_nil, beq_self_eq_true, *]) | ((first | refine LCB.cond (by simp only [seval, evx] <;> rfl) ?_ ?_ | refine wpG_split (by simp only [seval, evx] <;> rfl) ?_ ?_ | refine wxG_split (by simp only [seval, evx] <;> rfl) ?_ ?_) <;> (intro hc; try simp only [seval, nf] at hc)) | refine ACalls.inst ?_ | refine CallX.inst ?_ | (with_reducible refine And.intro ?_ ?_) | exact True.intro | refine ACalls.pure h1.of ?_ | refine CallX.pure h1.of ?_ | refine ACalls.pure h2.of ?_ | refine CallX.pure h2.of ?_)
theorem cs_dec (a b : Cs) : decide (a = b) = (decide (a.R = b.R) && (decide (a.heap = b.heap) && (decide (a.ans = b.ans) && decide (a.fuel = b.fuel)))) := by
  obtain ⟨a1, a2, a3, a4⟩ := a
  obtain ⟨b1, b2, b3, b4⟩ := b
  rw [Bool.eq_iff_iff]
  simp
theorem drop_I {R : List Int} {i : Nat} (h : i < R.length) : R.drop i = R.getD i 0 :: R.drop (i + 1) := by
  rw [List.drop_eq_getElem_cons h]
  simp [List.getD, h]
set_option maxHeartbeats 4000000 in
theorem ref17_Same_ok (a b : Cs) (ha : a.R.length = 8) (hb : b.R.length = 8) (hl : a.heap.length ≤ 9223372036854775806) (hl2 : a.ans.length ≤ 9223372036854775806) : Pure Tryd.prog 12 [csA a, csA b] (.bool (decide (a = b))) := by
  intro H
  refine ACalls.go joineryref17_Same.low (by simp) fun hcl => ?_
  have h1 := ref06_Same_ok a.heap b.heap hl
  have h2 := ref06_Same_ok a.ans b.ans hl2
  have hil : (ic a.R).length = 8 := by rw [ic_len, ha]
  have hil2 : (ic b.R).length = 8 := by rw [ic_len, hb]
  rw [cs_dec, csA_eq, csA_eq]
  unfold ints at h1 h2
  generalize hB : decide (a.R = b.R) = B
  generalize decide (a.heap = b.heap) = C1 at *
  generalize decide (a.ans = b.ans) = C2 at *
  clear hl hl2
  replace h1 := Hold.mk h1
  replace h2 := Hold.mk h2
  replace ha := Hold.mk ha
  replace hb := Hold.mk hb
  replace hB := Hold.mk hB
  repeat' (first | simp only [seval, evx, beq_self_eq_true, sb, ew, ec, List.map_nil, List.length_nil, beq_self_eq_true, *] | simp (disch := omega) only [if_pos, if_neg] | refine R.seq ?_ | refine LCB.text ?_ | refine LCB.quiet rfl ?_ | refine R.anyX ?_ | refine R.block ?_ | refine LCB.skip ?_ | refine LCB.exit ?_ | refine LCB.ret ?_ | ((first | refine RetOk.val hcl ?_ | refine Weak.at hcl ?_); simp only [seval, evw, fm, sb, ew, ec, List.map_nil, List.length_nil, beq_self_eq_true, *]) | ((first | refine LCB.cond (by simp only [seval, evx] <;> rfl) ?_ ?_ | refine wpG_split (by simp only [seval, evx] <;> rfl) ?_ ?_ | refine wxG_split (by simp only [seval, evx] <;> rfl) ?_ ?_) <;> (intro hc; try simp only [seval, nf] at hc)) | refine ACalls.inst ?_ | refine CallX.inst ?_ | (with_reducible refine And.intro ?_ ?_) | exact True.intro | refine ACalls.pure h1.of ?_ | refine CallX.pure h1.of ?_ | refine ACalls.pure h2.of ?_ | refine CallX.pure h2.of ?_)
  refine R.loop (S := Nat) ⟨fun i => [(2, .ptr H.length 1 0 0), (3, .ptr (H.length + 1) 1 0 0), (5, .int .i64 (i : Int))], fun i => H ++ [.vec 11 [ic a.R ++ [.list (a.heap.map encI), .list (a.ans.map encI), .int .i64 a.fuel]], .vec 11 [ic b.R ++ [.list (b.heap.map encI), .list (b.ans.map encI), .int .i64 b.fuel]]],
    fun i => i ≤ 8 ∧ decide (a.R.drop i = b.R.drop i) = B, fun i => 8 - i⟩ 0 ⟨Nat.zero_le _, hB.of⟩ (Weak.at hcl ?_) ?_
  · simp only [seval, evw, fm, sb, ew, ec, List.map_nil, List.length_nil, beq_self_eq_true, *]
  rintro i ⟨hi, hq⟩
  simp only at hi hq ⊢
  by_cases hlt : i < 8
  · have e2 : (i : Int) < 8 := by omega
    have hg := ic_get (R := a.R) (r := [.list (a.heap.map encI), .list (a.ans.map encI), .int .i64 a.fuel]) (i := i) (by rw [ha.of]; exact hlt)
    have hg2 := ic_get (R := b.R) (r := [.list (b.heap.map encI), .list (b.ans.map encI), .int .i64 b.fuel]) (i := i) (by rw [hb.of]; exact hlt)
    have e4 : IntKind.i64.wrap ((i : Int) + 1) = ((i + 1 : Nat) : Int) := by rw [IntKind.wrap_i64]; omega
    have e5 : i < 11 := by omega
    have e6 : i + 1 ≤ 11 := by omega
    rw [drop_I (R := a.R) (by rw [ha.of]; exact hlt), drop_I (R := b.R) (by rw [hb.of]; exact hlt)] at hq
    generalize a.R.getD i 0 = x at *
    generalize b.R.getD i 0 = y at *
    by_cases hxy : x = y
    · subst hxy
      have hq2 : decide (a.R.drop (i + 1) = b.R.drop (i + 1)) = B := by simpa using hq
      clear hq
      replace hq2 := Hold.mk hq2
      repeat' (first | simp only [seval, evx, beq_self_eq_true, sb, ew, ec, List.map_nil, List.length_nil, beq_self_eq_true, *] | simp (disch := omega) only [if_pos, if_neg] | refine R.seq ?_ | refine LCB.text ?_ | refine LCB.quiet rfl ?_ | refine R.anyX ?_ | refine R.block ?_ | refine LCB.skip ?_ | refine LCB.exit ?_ | refine LCB.ret ?_ | ((first | refine RetOk.val hcl ?_ | refine Weak.at hcl ?_); simp only [seval, evw, fm, sb, ew, ec, List.map_nil, List.length_nil, beq_self_eq_true, *]) | ((first | refine LCB.cond (by simp only [seval, evx] <;> rfl) ?_ ?_ | refine wpG_split (by simp only [seval, evx] <;> rfl) ?_ ?_ | refine wxG_split (by simp only [seval, evx] <;> rfl) ?_ ?_) <;> (intro hc; try simp only [seval, nf] at hc)) | refine ACalls.inst ?_ | refine CallX.inst ?_ | (with_reducible refine And.intro ?_ ?_) | exact True.intro | refine ACalls.pure h1.of ?_ | refine CallX.pure h1.of ?_ | refine ACalls.pure h2.of ?_ | refine CallX.pure h2.of ?_)
      refine ⟨i + 1, ⟨hlt, hq2.of⟩, by simp only; omega, Weak.at hcl ?_⟩
      simp only [seval, evw, fm, sb, ew, ec, List.map_nil, List.length_nil, beq_self_eq_true, *]
    · have hBf : B = false := by rw [← hq]; simp [hxy]
      subst hBf
      replace hq := Hold.mk hq
      repeat' (first | simp only [seval, evx, beq_self_eq_true, sb, ew, ec, List.map_nil, List.length_nil, beq_self_eq_true, *] | simp (disch := omega) only [if_pos, if_neg] | refine R.seq ?_ | refine LCB.text ?_ | refine LCB.quiet rfl ?_ | refine R.anyX ?_ | refine R.block ?_ | refine LCB.skip ?_ | refine LCB.exit ?_ | refine LCB.ret ?_ | ((first | refine RetOk.val hcl ?_ | refine Weak.at hcl ?_); simp only [seval, evw, fm, sb, ew, ec, List.map_nil, List.length_nil, beq_self_eq_true, *]) | ((first | refine LCB.cond (by simp only [seval, evx] <;> rfl) ?_ ?_ | refine wpG_split (by simp only [seval, evx] <;> rfl) ?_ ?_ | refine wxG_split (by simp only [seval, evx] <;> rfl) ?_ ?_) <;> (intro hc; try simp only [seval, nf] at hc)) | refine ACalls.inst ?_ | refine CallX.inst ?_ | (with_reducible refine And.intro ?_ ?_) | exact True.intro | refine ACalls.pure h1.of ?_ | refine CallX.pure h1.of ?_ | refine ACalls.pure h2.of ?_ | refine CallX.pure h2.of ?_)
  · have hie : i = 8 := by omega
    subst hie
    have hBt : B = true := by
      rw [← hq, List.drop_of_length_le (by rw [ha.of]; exact Nat.le_refl _), List.drop_of_length_le (by rw [hb.of]; exact Nat.le_refl _)]
      simp
    subst hBt
    have e5 : (((8 : Nat) : Int)) = 8 := rfl
    replace hq := Hold.mk hq
    cases C1
    case false => repeat' (first | simp only [seval, evx, beq_self_eq_true, sb, ew, ec, List.map_nil, List.length_nil, beq_self_eq_true, *] | simp (disch := omega) only [if_pos, if_neg] | refine R.seq ?_ | refine LCB.text ?_ | refine LCB.quiet rfl ?_ | refine R.anyX ?_ | refine R.block ?_ | refine LCB.skip ?_ | refine LCB.exit ?_ | refine LCB.ret ?_ | ((first | refine RetOk.val hcl ?_ | refine Weak.at hcl ?_); simp only [seval, evw, fm, sb, ew, ec, List.map_nil, List.length_nil, beq_self_eq_true, *]) | ((first | refine LCB.cond (by simp only [seval, evx] <;> rfl) ?_ ?_ | refine wpG_split (by simp only [seval, evx] <;> rfl) ?_ ?_ | refine wxG_split (by simp only [seval, evx] <;> rfl) ?_ ?_) <;> (intro hc; try simp only [seval, nf] at hc)) | refine ACalls.inst ?_ | refine CallX.inst ?_ | (with_reducible refine And.intro ?_ ?_) | exact True.intro | refine ACalls.pure h1.of ?_ | refine CallX.pure h1.of ?_ | refine ACalls.pure h2.of ?_ | refine CallX.pure h2.of ?_)
    cases C2
    case false => repeat' (first | simp only [seval, evx, beq_self_eq_true, sb, ew, ec, List.map_nil, List.length_nil, beq_self_eq_true, *] | simp (disch := omega) only [if_pos, if_neg] | refine R.seq ?_ | refine LCB.text ?_ | refine LCB.quiet rfl ?_ | refine R.anyX ?_ | refine R.block ?_ | refine LCB.skip ?_ | refine LCB.exit ?_ | refine LCB.ret ?_ | ((first | refine RetOk.val hcl ?_ | refine Weak.at hcl ?_); simp only [seval, evw, fm, sb, ew, ec, List.map_nil, List.length_nil, beq_self_eq_true, *]) | ((first | refine LCB.cond (by simp only [seval, evx] <;> rfl) ?_ ?_ | refine wpG_split (by simp only [seval, evx] <;> rfl) ?_ ?_ | refine wxG_split (by simp only [seval, evx] <;> rfl) ?_ ?_) <;> (intro hc; try simp only [seval, nf] at hc)) | refine ACalls.inst ?_ | refine CallX.inst ?_ | (with_reducible refine And.intro ?_ ?_) | exact True.intro | refine ACalls.pure h1.of ?_ | refine CallX.pure h1.of ?_ | refine ACalls.pure h2.of ?_ | refine CallX.pure h2.of ?_)
    repeat' (first | simp only [seval, evx, beq_self_eq_true, sb, ew, ec, List.map_nil, List.length_nil, beq_self_eq_true, *] | simp (disch := omega) only [if_pos, if_neg] | refine R.seq ?_ | refine LCB.text ?_ | refine LCB.quiet rfl ?_ | refine R.anyX ?_ | refine R.block ?_ | refine LCB.skip ?_ | refine LCB.exit ?_ | refine LCB.ret ?_ | ((first | refine RetOk.val hcl ?_ | refine Weak.at hcl ?_); simp only [seval, evw, fm, sb, ew, ec, List.map_nil, List.length_nil, beq_self_eq_true, *]) | ((first | refine LCB.cond (by simp only [seval, evx] <;> rfl) ?_ ?_ | refine wpG_split (by simp only [seval, evx] <;> rfl) ?_ ?_ | refine wxG_split (by simp only [seval, evx] <;> rfl) ?_ ?_) <;> (intro hc; try simp only [seval, nf] at hc)) | refine ACalls.inst ?_ | refine CallX.inst ?_ | (with_reducible refine And.intro ?_ ?_) | exact True.intro | refine ACalls.pure h1.of ?_ | refine CallX.pure h1.of ?_ | refine ACalls.pure h2.of ?_ | refine CallX.pure h2.of ?_)
end Go.Proofs.YtphmakopjfbmnaaDoor
namespace Go.Proofs.YtphmakopjfbmnaaDoor
open Go.RowKit
set_option linter.unusedVariables false
set_option linter.unusedSimpArgs false
def w2x : List UInt8 := [114, 101, 116, 32, 114, 48, 10]
def w2y : List UInt8 := [114, 101, 116, 32, 114, 49, 10]
def w2f : List Ins := [⟨18, 0, 0, 0, 0, 0⟩]
def w2g : List Ins := [⟨18, 0, 1, 0, 0, 0⟩]
def w2c : Cs := ⟨[5, 6, 0, 0, 0, 7, 0, 0], [3], [4], 9⟩
def w2d : Cs := ⟨[0, 6, 0, 0, 0, 0, 0, 0], [], [], 1⟩
theorem w2x_ok : fnParse w2x = (w2f, 0, 0) := by decide +kernel
theorem w2y_ok : fnParse w2y = (w2g, 0, 0) := by decide +kernel
theorem w2f_ok : fnOk w2f = true := by decide +kernel
theorem w2g_ok : fnOk w2g = true := by decide +kernel
theorem w2c_ok : csRight w2c = true := by decide +kernel
theorem w2_tell : tellF w2f w2g w2c = 3 := by decide +kernel
theorem w2_shr : shrunk w2f w2g w2c = w2d := by decide +kernel
theorem w2_tell2 : tellF w2f w2g w2d = 3 := by decide +kernel
theorem w2_case : caseA w2f w2g w2c = .tup [.agg [.int .i64 0, .int .i64 6, .int .i64 0, .int .i64 0, .int .i64 0, .int .i64 0, .int .i64 0, .int .i64 0, .list [], .list [], .int .i64 1], .int .i64 3, .int .i64 0] := by
  unfold caseA
  rw [w2f_ok, w2g_ok, w2c_ok, Bool.and_true, Bool.and_true, if_pos rfl, w2_tell, if_neg (by decide), w2_shr, w2_tell2]
  rfl
theorem w2c_eq : csA w2c = .agg [.int .i64 5, .int .i64 6, .int .i64 0, .int .i64 0, .int .i64 0, .int .i64 7, .int .i64 0, .int .i64 0, .list [[.int .i64 3]], .list [[.int .i64 4]], .int .i64 9] := rfl
theorem caseA_fair {f g : List Ins} {c : Cs} (hf : fnOk f = true) (hg : fnOk g = true) (hc : csRight c = true) : ∃ x : Cs, caseA f g c = .tup [csA x, .int .i64 (tellF f g x), .int .i64 0] ∧ csRight x = true ∧ x.R.length = c.R.length ∧ (tellF f g x = 0 ↔ tellF f g c = 0) ∧ x.fuel ≤ c.fuel ∧
    (∃ n, x.ans = c.ans.take n) ∧ (∃ n, x.heap = c.heap.take n) ∧ (∀ i, x.R.getD i 0 = c.R.getD i 0 ∨ x.R.getD i 0 = 0) ∧
    (tellF f g x ≠ 0 → ∀ m : Nat, (m : Int) < x.fuel → tellF f g { c with fuel := (m : Int) } = 0) ∧ (tellF f g x ≠ 0 → ∀ m : Nat, m < x.ans.length → tellF f g { c with fuel := x.fuel, ans := c.ans.take m } = 0) := by
  unfold caseA
  rw [hf, hg, hc, Bool.and_true, Bool.and_true, if_pos rfl]
  by_cases ht : tellF f g c = 0
  · rw [if_pos ht]
    refine ⟨c, by rw [ht], hc, rfl, Iff.rfl, Int.le_refl _, ⟨c.ans.length, (List.take_length).symm⟩, ⟨c.heap.length, (List.take_length).symm⟩, fun i => .inl rfl, fun h => absurd ht h, fun h => absurd ht h⟩
  · rw [if_neg ht]
    have t0 : tellsB f g c = true := tellsB_iff.2 ht
    obtain ⟨a1, a2, a3⟩ := sh_fuel hc t0
    obtain ⟨b1, b2⟩ := sh_ans a1 a2
    obtain ⟨c1, c2, nh, c3⟩ := sh_heap b1 b2
    obtain ⟨d1, d2, d3, d4⟩ := sh_regs c1 c2
    have hx : tellF f g (shrunk f g c) ≠ 0 := tellsB_iff.1 d2
    refine ⟨shrunk f g c, rfl, d1, d3, ⟨fun h => absurd h hx, fun h => absurd h ht⟩, a3, ⟨_, rfl⟩, ⟨nh, c3⟩, d4, fun _ m hm => ?_, fun _ m hm => ?_⟩
    · have := (leastN_spec (fun n => tellsB f g { c with fuel := (n : Int) }) c.fuel.toNat).2.2 m (by
        have : (m : Int) < ((leastN (fun n => tellsB f g { c with fuel := (n : Int) }) c.fuel.toNat : Nat) : Int) := hm
        omega)
      simpa [tellsB] using this
    · have h1 := (leastN_spec (fun n => tellsB f g { shFuel f g c with ans := (shFuel f g c).ans.take n }) (shFuel f g c).ans.length).2.2 m (by
        have : m < ((shFuel f g c).ans.take (leastN (fun n => tellsB f g { shFuel f g c with ans := (shFuel f g c).ans.take n }) (shFuel f g c).ans.length)).length := hm
        rw [List.length_take] at this
        omega)
      have h2 : tellF f g { shFuel f g c with ans := (shFuel f g c).ans.take m } = 0 := by simpa [tellsB] using h1
      exact h2
theorem caseA_not {f g : List Ins} {c : Cs} (h : (fnOk f && (fnOk g && csRight c)) = false) : caseA f g c = .tup [csA cs0, .int .i64 0, .int .i64 1] := by
  unfold caseA
  rw [h]
  rfl
theorem caseA_comm (f g : List Ins) (c : Cs) : caseA f g c = caseA g f c := by
  unfold caseA
  rw [tell_comm f g c, shrunk_comm f g c, tell_comm f g (shrunk g f c)]
  cases fnOk f <;> cases fnOk g <;> rfl
theorem caseA_self (f : List Ins) (c : Cs) : caseA f f c = if fnOk f && csRight c then .tup [csA c, .int .i64 0, .int .i64 0] else .tup [csA cs0, .int .i64 0, .int .i64 1] := by
  unfold caseA
  rw [tell_self, if_pos rfl]
  cases fnOk f <;> cases csRight c <;> rfl
set_option maxHeartbeats 4000000 in
theorem law20_knows_ok : Pure Tryd.prog 8 [] (.bool true) := by
  intro H
  refine ACalls.go joinerylaw20_knows.low (by simp) fun hcl => ?_
  have h1 := asm_Parse_ok w2x (by decide)
  rw [w2x_ok] at h1
  have h3 := asm_Parse_ok w2y (by decide)
  rw [w2y_ok] at h3
  have h2 := shrink_Case_ok w2f w2g w2c rfl (by decide) (by decide)
  rw [w2_case, w2c_eq] at h2
  unfold fnR encFn at *
  simp only at h1 h3
  generalize List.map encIns w2f = F at *
  generalize List.map encIns w2g = G at *
  unfold w2x w2y at *
  replace h1 := Hold.mk h1
  replace h3 := Hold.mk h3
  replace h2 := Hold.mk h2
  repeat' (first | simp only [seval, evx, beq_self_eq_true, sb, ew, ec, List.map_nil, List.length_nil, Nat.mul_one, *] | simp (disch := omega) only [if_pos, if_neg] | refine R.seq ?_ | refine LCB.text ?_ | refine LCB.quiet rfl ?_ | refine R.anyX ?_ | refine R.block ?_ | refine LCB.skip ?_ | refine LCB.exit ?_ | refine LCB.ret ?_ | ((first | refine RetOk.val hcl ?_ | refine Weak.at hcl ?_); simp only [seval, evw, fm, sb, ew, ec, List.map_nil, List.length_nil, Nat.mul_one, *]) | ((first | refine LCB.cond (by simp only [seval, evx] <;> rfl) ?_ ?_ | refine wpG_split (by simp only [seval, evx] <;> rfl) ?_ ?_ | refine wxG_split (by simp only [seval, evx] <;> rfl) ?_ ?_) <;> (intro hc; try simp only [seval, nf] at hc)) | refine ACalls.inst ?_ | refine CallX.inst ?_ | (with_reducible refine And.intro ?_ ?_) | exact True.intro | refine ACalls.pure h1.of ?_ | refine CallX.pure h1.of ?_ | refine ACalls.pure h3.of ?_ | refine CallX.pure h3.of ?_)
  refine ACalls.loseAt [.gone, .gone, .vec 11 [[.int .i64 5, .int .i64 6, .int .i64 0, .int .i64 0, .int .i64 0, .int .i64 7, .int .i64 0, .int .i64 0, .list [[.int .i64 3]], .list [[.int .i64 4]], .int .i64 9]]] [.list F, .list G, .agg [.int .i64 5, .int .i64 6, .int .i64 0, .int .i64 0, .int .i64 0, .int .i64 7, .int .i64 0, .int .i64 0, .list [[.int .i64 3]], .list [[.int .i64 4]], .int .i64 9]] (by simp only [seval, evw, lk, fm, sb, ew, ec, List.map_nil, List.length_nil, Nat.mul_one, *]) (ACalls.pure h2.of ?_)
  repeat' (first | simp only [seval, evx, beq_self_eq_true, sb, ew, ec, List.map_nil, List.length_nil, Nat.mul_one, *] | simp (disch := omega) only [if_pos, if_neg] | refine R.seq ?_ | refine LCB.text ?_ | refine LCB.quiet rfl ?_ | refine R.anyX ?_ | refine R.block ?_ | refine LCB.skip ?_ | refine LCB.exit ?_ | refine LCB.ret ?_ | ((first | refine RetOk.val hcl ?_ | refine Weak.at hcl ?_); simp only [seval, evw, fm, sb, ew, ec, List.map_nil, List.length_nil, Nat.mul_one, *]) | ((first | refine LCB.cond (by simp only [seval, evx] <;> rfl) ?_ ?_ | refine wpG_split (by simp only [seval, evx] <;> rfl) ?_ ?_ | refine wxG_split (by simp only [seval, evx] <;> rfl) ?_ ?_) <;> (intro hc; try simp only [seval, nf] at hc)) | refine ACalls.inst ?_ | refine CallX.inst ?_ | (with_reducible refine And.intro ?_ ?_) | exact True.intro | refine ACalls.pure h1.of ?_ | refine CallX.pure h1.of ?_ | refine ACalls.pure h3.of ?_ | refine CallX.pure h3.of ?_)
instance pc_law20_knows : PureC Tryd.prog 8 [] (.bool true) := ⟨law20_knows_ok⟩
end Go.Proofs.YtphmakopjfbmnaaDoor
