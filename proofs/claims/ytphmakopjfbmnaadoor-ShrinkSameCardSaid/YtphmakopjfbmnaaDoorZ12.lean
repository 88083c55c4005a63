/-
  Texts of this claim, put together.
-/
import Derived.Laws.BitsLemmas
import Derived.Test.YtphmakopjfbmnaaDoorZ11
namespace Go.Proofs.YtphmakopjfbmnaaDoor
open Go.RowKit
set_option linter.unusedVariables false
set_option linter.unusedSimpArgs false
def ints (l : List Int) : AV := .list (l.map encI)
theorem getD_encI {l : List Int} {j : Nat} (h : j < l.length) : (l.map encI).getD j [] = [.int .i64 (l.getD j 0)] := by
  simp [List.getD, h, encI]
theorem map_set_encI {l : List Int} {j : Nat} {v : Int} : (l.map encI).set j [.int .i64 v] = (l.set j v).map encI := by
  rw [List.map_set]; rfl
def hIn (h : List Int) (a : Int) : Bool := decide (h.length ≤ 16) && (decide (0 ≤ a) && decide (a < (h.length : Int)))
def hLoad (h : List Int) (a : Int) : Int × Int := if hIn h a then (h.getD a.toNat 0, 0) else (0, 4)
def hStore (h : List Int) (a v : Int) : List Int × Int := if hIn h a then (h.set a.toNat v, 0) else ([], 4)
def hLoadA (h : List Int) (a : Int) : AV := .tup [.int .i64 (hLoad h a).1, .int .i64 (hLoad h a).2]
def hStoreA (h : List Int) (a v : Int) : AV := .tup [ints (hStore h a v).1, .int .i64 (hStore h a v).2]
theorem heap_Right_ok (h : List Int) : Pure Tryd.prog 50 [ints h] (.bool (decide (h.length ≤ 16))) := by
  intro H
  refine ACalls.go heap_Right.low (by simp) fun hcl => ?_
  unfold ints
  have e : decide ((h.length : Int) ≤ 16) = decide (h.length ≤ 16) := decide_eq_decide.2 (by omega)
  repeat' (first | simp only [seval, evo, beq_self_eq_true, sb, encI_def, *] | simp (disch := omega) only [if_pos, if_neg] | refine R.seq ?_ | refine LCB.text ?_ | refine LCB.quiet rfl ?_ | refine R.calls rfl ?_ | refine R.block ?_ | refine LCB.skip ?_ | refine LCB.exit ?_ | refine LCB.ret ?_ | ((first | refine RetOk.val hcl ?_ | refine Weak.at hcl ?_); simp only [seval, evw, fm, sb, encI_def, *]) | ((first | refine LCB.cond (by simp only [seval, evo] <;> rfl) ?_ ?_ | refine wpG_split (by simp only [seval, evo] <;> rfl) ?_ ?_ | refine wqG_split (by simp only [seval, evo] <;> rfl) ?_ ?_) <;> (intro hc; try simp only [seval, nf] at hc)) | refine ACalls.inst ?_ | refine CallP.inst rfl ?_)
instance pc_heap_Right (h : List Int) : PureC Tryd.prog 50 [.list (h.map encI)] (.bool (decide (h.length ≤ 16))) := ⟨heap_Right_ok h⟩
theorem heap_in_ok (h : List Int) (a : Int) : Pure Tryd.prog 64 [ints h, .int .i64 a] (.bool (hIn h a)) := by
  intro H
  refine ACalls.go heap_in.low (by simp) fun hcl => ?_
  unfold ints
  have hi : hIn h a = (decide (h.length ≤ 16) && (decide (0 ≤ a) && decide (a < (h.length : Int)))) := rfl
  by_cases c1 : h.length ≤ 16
  · by_cases c2 : 0 ≤ a
    · by_cases c3 : a < (h.length : Int)
      · rw [hi]
        repeat' (first | simp only [seval, evo, beq_self_eq_true, sb, encI_def, *] | simp (disch := omega) only [if_pos, if_neg] | refine R.seq ?_ | refine LCB.text ?_ | refine LCB.quiet rfl ?_ | refine R.calls rfl ?_ | refine R.block ?_ | refine LCB.skip ?_ | refine LCB.exit ?_ | refine LCB.ret ?_ | ((first | refine RetOk.val hcl ?_ | refine Weak.at hcl ?_); simp only [seval, evw, fm, sb, encI_def, *]) | ((first | refine LCB.cond (by simp only [seval, evo] <;> rfl) ?_ ?_ | refine wpG_split (by simp only [seval, evo] <;> rfl) ?_ ?_ | refine wqG_split (by simp only [seval, evo] <;> rfl) ?_ ?_) <;> (intro hc; try simp only [seval, nf] at hc)) | refine ACalls.inst ?_ | refine CallP.inst rfl ?_)
      · rw [hi]
        repeat' (first | simp only [seval, evo, beq_self_eq_true, sb, encI_def, *] | simp (disch := omega) only [if_pos, if_neg] | refine R.seq ?_ | refine LCB.text ?_ | refine LCB.quiet rfl ?_ | refine R.calls rfl ?_ | refine R.block ?_ | refine LCB.skip ?_ | refine LCB.exit ?_ | refine LCB.ret ?_ | ((first | refine RetOk.val hcl ?_ | refine Weak.at hcl ?_); simp only [seval, evw, fm, sb, encI_def, *]) | ((first | refine LCB.cond (by simp only [seval, evo] <;> rfl) ?_ ?_ | refine wpG_split (by simp only [seval, evo] <;> rfl) ?_ ?_ | refine wqG_split (by simp only [seval, evo] <;> rfl) ?_ ?_) <;> (intro hc; try simp only [seval, nf] at hc)) | refine ACalls.inst ?_ | refine CallP.inst rfl ?_)
    · rw [hi]
      repeat' (first | simp only [seval, evo, beq_self_eq_true, sb, encI_def, *] | simp (disch := omega) only [if_pos, if_neg] | refine R.seq ?_ | refine LCB.text ?_ | refine LCB.quiet rfl ?_ | refine R.calls rfl ?_ | refine R.block ?_ | refine LCB.skip ?_ | refine LCB.exit ?_ | refine LCB.ret ?_ | ((first | refine RetOk.val hcl ?_ | refine Weak.at hcl ?_); simp only [seval, evw, fm, sb, encI_def, *]) | ((first | refine LCB.cond (by simp only [seval, evo] <;> rfl) ?_ ?_ | refine wpG_split (by simp only [seval, evo] <;> rfl) ?_ ?_ | refine wqG_split (by simp only [seval, evo] <;> rfl) ?_ ?_) <;> (intro hc; try simp only [seval, nf] at hc)) | refine ACalls.inst ?_ | refine CallP.inst rfl ?_)
  · rw [hi]
    repeat' (first | simp only [seval, evo, beq_self_eq_true, sb, encI_def, *] | simp (disch := omega) only [if_pos, if_neg] | refine R.seq ?_ | refine LCB.text ?_ | refine LCB.quiet rfl ?_ | refine R.calls rfl ?_ | refine R.block ?_ | refine LCB.skip ?_ | refine LCB.exit ?_ | refine LCB.ret ?_ | ((first | refine RetOk.val hcl ?_ | refine Weak.at hcl ?_); simp only [seval, evw, fm, sb, encI_def, *]) | ((first | refine LCB.cond (by simp only [seval, evo] <;> rfl) ?_ ?_ | refine wpG_split (by simp only [seval, evo] <;> rfl) ?_ ?_ | refine wqG_split (by simp only [seval, evo] <;> rfl) ?_ ?_) <;> (intro hc; try simp only [seval, nf] at hc)) | refine ACalls.inst ?_ | refine CallP.inst rfl ?_)
theorem heap_Load_ok (h : List Int) (a : Int) : Pure Tryd.prog 58 [ints h, .int .i64 a] (hLoadA h a) := by
  intro H
  refine ACalls.go heap_Load.low (by simp) fun hcl => ?_
  have h1 := heap_in_ok h a
  unfold hLoadA hLoad ints at *
  by_cases c : hIn h a = true
  · rw [c] at h1
    rw [if_pos c]
    replace h1 := Hold.mk h1
    have c2 : 0 ≤ a ∧ a < (h.length : Int) := by simp [hIn] at c; exact ⟨c.2.1, c.2.2⟩
    obtain ⟨n, rfl⟩ := Int.eq_ofNat_of_zero_le c2.1
    have c3 : (n : Int) < (h.length : Int) := c2.2
    have hg := getD_encI (l := h) (j := n) (by omega)
    clear c2
    replace c := Hold.mk c
    repeat' (first | simp only [seval, evo, beq_self_eq_true, sb, encI_def, *] | simp (disch := omega) only [if_pos, if_neg] | refine R.seq ?_ | refine LCB.text ?_ | refine LCB.quiet rfl ?_ | refine R.calls rfl ?_ | refine R.block ?_ | refine LCB.skip ?_ | refine LCB.exit ?_ | refine LCB.ret ?_ | ((first | refine RetOk.val hcl ?_ | refine Weak.at hcl ?_); simp only [seval, evw, fm, sb, encI_def, *]) | ((first | refine LCB.cond (by simp only [seval, evo] <;> rfl) ?_ ?_ | refine wpG_split (by simp only [seval, evo] <;> rfl) ?_ ?_ | refine wqG_split (by simp only [seval, evo] <;> rfl) ?_ ?_) <;> (intro hc; try simp only [seval, nf] at hc)) | refine ACalls.inst ?_ | refine CallP.inst rfl ?_)
    first | refine ACalls.pure (h1.of) ?_ | refine CallP.pure (h1.of) rfl ?_ | refine CallX.pure (h1.of) ?_
    repeat' (first | simp only [seval, evo, beq_self_eq_true, sb, encI_def, *] | simp (disch := omega) only [if_pos, if_neg] | refine R.seq ?_ | refine LCB.text ?_ | refine LCB.quiet rfl ?_ | refine R.calls rfl ?_ | refine R.block ?_ | refine LCB.skip ?_ | refine LCB.exit ?_ | refine LCB.ret ?_ | ((first | refine RetOk.val hcl ?_ | refine Weak.at hcl ?_); simp only [seval, evw, fm, sb, encI_def, *]) | ((first | refine LCB.cond (by simp only [seval, evo] <;> rfl) ?_ ?_ | refine wpG_split (by simp only [seval, evo] <;> rfl) ?_ ?_ | refine wqG_split (by simp only [seval, evo] <;> rfl) ?_ ?_) <;> (intro hc; try simp only [seval, nf] at hc)) | refine ACalls.inst ?_ | refine CallP.inst rfl ?_)
  · have c2 : hIn h a = false := by simpa using c
    rw [c2] at h1
    rw [if_neg c]
    replace h1 := Hold.mk h1
    repeat' (first | simp only [seval, evo, beq_self_eq_true, sb, encI_def, *] | simp (disch := omega) only [if_pos, if_neg] | refine R.seq ?_ | refine LCB.text ?_ | refine LCB.quiet rfl ?_ | refine R.calls rfl ?_ | refine R.block ?_ | refine LCB.skip ?_ | refine LCB.exit ?_ | refine LCB.ret ?_ | ((first | refine RetOk.val hcl ?_ | refine Weak.at hcl ?_); simp only [seval, evw, fm, sb, encI_def, *]) | ((first | refine LCB.cond (by simp only [seval, evo] <;> rfl) ?_ ?_ | refine wpG_split (by simp only [seval, evo] <;> rfl) ?_ ?_ | refine wqG_split (by simp only [seval, evo] <;> rfl) ?_ ?_) <;> (intro hc; try simp only [seval, nf] at hc)) | refine ACalls.inst ?_ | refine CallP.inst rfl ?_)
    first | refine ACalls.pure (h1.of) ?_ | refine CallP.pure (h1.of) rfl ?_ | refine CallX.pure (h1.of) ?_
    repeat' (first | simp only [seval, evo, beq_self_eq_true, sb, encI_def, *] | simp (disch := omega) only [if_pos, if_neg] | refine R.seq ?_ | refine LCB.text ?_ | refine LCB.quiet rfl ?_ | refine R.calls rfl ?_ | refine R.block ?_ | refine LCB.skip ?_ | refine LCB.exit ?_ | refine LCB.ret ?_ | ((first | refine RetOk.val hcl ?_ | refine Weak.at hcl ?_); simp only [seval, evw, fm, sb, encI_def, *]) | ((first | refine LCB.cond (by simp only [seval, evo] <;> rfl) ?_ ?_ | refine wpG_split (by simp only [seval, evo] <;> rfl) ?_ ?_ | refine wqG_split (by simp only [seval, evo] <;> rfl) ?_ ?_) <;> (intro hc; try simp only [seval, nf] at hc)) | refine ACalls.inst ?_ | refine CallP.inst rfl ?_)
theorem heap_Store_ok (h : List Int) (a v : Int) : Pure Tryd.prog 59 [ints h, .int .i64 a, .int .i64 v] (hStoreA h a v) := by
  intro H
  refine ACalls.go heap_Store.low (by simp) fun hcl => ?_
  have h1 := heap_in_ok h a
  unfold hStoreA hStore ints at *
  by_cases c : hIn h a = true
  · rw [c] at h1
    rw [if_pos c]
    replace h1 := Hold.mk h1
    have c2 : h.length ≤ 16 ∧ 0 ≤ a ∧ a < (h.length : Int) := by simp [hIn] at c; exact c
    obtain ⟨n, rfl⟩ := Int.eq_ofNat_of_zero_le c2.2.1
    have c3 : (n : Int) < (h.length : Int) := c2.2.2
    have c4 : n < h.length := by omega
    have c5 : (8 : Int) * (h.length : Int) ≤ 140737488355328 := by omega
    have c6 : (h.length : Int) ≤ 9223372036854775807 := by omega
    have rk : rowsOk 1 (h.map encI) = true := rk_map fun x _ => ⟨rfl, rfl⟩
    have ms := map_set_encI (l := h) (j := n) (v := v)
    have hcp : List.take (min h.length h.length) (h.map encI) ++ List.drop (min h.length h.length) (List.replicate h.length [AV.int .i64 0]) = h.map encI := by simp [List.take_of_length_le]
    have hrep : (List.replicate h.length [AV.int .i64 0]).length = h.length := by simp
    have hsl : (h.set n v).length = h.length := by simp
    have tkk : List.take h.length (List.map encI (h.set n v)) = List.map encI (h.set n v) := List.take_of_length_le (by simp)
    have l1 : (List.take (min h.length h.length) (h.map encI)).length = h.length := by simp
    have l2 : (List.drop (min h.length h.length) (List.replicate h.length [AV.int .i64 0])).length = 0 := by simp
    have hgn : (h.map encI)[n]? = some [AV.int .i64 (h.getD n 0)] := by simp [encI, c4]
    clear c2
    replace c := Hold.mk c
    repeat' (first | simp only [seval, evo, beq_self_eq_true, sb, encI_def, *] | simp (disch := omega) only [if_pos, if_neg] | refine R.seq ?_ | refine LCB.text ?_ | refine LCB.quiet rfl ?_ | refine R.calls rfl ?_ | refine R.block ?_ | refine LCB.skip ?_ | refine LCB.exit ?_ | refine LCB.ret ?_ | ((first | refine RetOk.val hcl ?_ | refine Weak.at hcl ?_); simp only [seval, evw, fm, sb, encI_def, *]) | ((first | refine LCB.cond (by simp only [seval, evo] <;> rfl) ?_ ?_ | refine wpG_split (by simp only [seval, evo] <;> rfl) ?_ ?_ | refine wqG_split (by simp only [seval, evo] <;> rfl) ?_ ?_) <;> (intro hc; try simp only [seval, nf] at hc)) | refine ACalls.inst ?_ | refine CallP.inst rfl ?_)
    first | refine ACalls.pure (h1.of) ?_ | refine CallP.pure (h1.of) rfl ?_ | refine CallX.pure (h1.of) ?_
    repeat' (first | simp only [seval, evo, beq_self_eq_true, sb, encI_def, *] | simp (disch := omega) only [if_pos, if_neg] | refine R.seq ?_ | refine LCB.text ?_ | refine LCB.quiet rfl ?_ | refine R.calls rfl ?_ | refine R.block ?_ | refine LCB.skip ?_ | refine LCB.exit ?_ | refine LCB.ret ?_ | ((first | refine RetOk.val hcl ?_ | refine Weak.at hcl ?_); simp only [seval, evw, fm, sb, encI_def, *]) | ((first | refine LCB.cond (by simp only [seval, evo] <;> rfl) ?_ ?_ | refine wpG_split (by simp only [seval, evo] <;> rfl) ?_ ?_ | refine wqG_split (by simp only [seval, evo] <;> rfl) ?_ ?_) <;> (intro hc; try simp only [seval, nf] at hc)) | refine ACalls.inst ?_ | refine CallP.inst rfl ?_)
  · have c2 : hIn h a = false := by simpa using c
    rw [c2] at h1
    rw [if_neg c]
    replace h1 := Hold.mk h1
    repeat' (first | simp only [seval, evo, beq_self_eq_true, sb, encI_def, *] | simp (disch := omega) only [if_pos, if_neg] | refine R.seq ?_ | refine LCB.text ?_ | refine LCB.quiet rfl ?_ | refine R.calls rfl ?_ | refine R.block ?_ | refine LCB.skip ?_ | refine LCB.exit ?_ | refine LCB.ret ?_ | ((first | refine RetOk.val hcl ?_ | refine Weak.at hcl ?_); simp only [seval, evw, fm, sb, encI_def, *]) | ((first | refine LCB.cond (by simp only [seval, evo] <;> rfl) ?_ ?_ | refine wpG_split (by simp only [seval, evo] <;> rfl) ?_ ?_ | refine wqG_split (by simp only [seval, evo] <;> rfl) ?_ ?_) <;> (intro hc; try simp only [seval, nf] at hc)) | refine ACalls.inst ?_ | refine CallP.inst rfl ?_)
    first | refine ACalls.pure (h1.of) ?_ | refine CallP.pure (h1.of) rfl ?_ | refine CallX.pure (h1.of) ?_
    repeat' (first | simp only [seval, evo, beq_self_eq_true, sb, encI_def, *] | simp (disch := omega) only [if_pos, if_neg] | refine R.seq ?_ | refine LCB.text ?_ | refine LCB.quiet rfl ?_ | refine R.calls rfl ?_ | refine R.block ?_ | refine LCB.skip ?_ | refine LCB.exit ?_ | refine LCB.ret ?_ | ((first | refine RetOk.val hcl ?_ | refine Weak.at hcl ?_); simp only [seval, evw, fm, sb, encI_def, *]) | ((first | refine LCB.cond (by simp only [seval, evo] <;> rfl) ?_ ?_ | refine wpG_split (by simp only [seval, evo] <;> rfl) ?_ ?_ | refine wqG_split (by simp only [seval, evo] <;> rfl) ?_ ?_) <;> (intro hc; try simp only [seval, nf] at hc)) | refine ACalls.inst ?_ | refine CallP.inst rfl ?_)
theorem ref06_Same_ok (a b : List Int) (hl : a.length ≤ 9223372036854775806) : Pure Tryd.prog 11 [ints a, ints b] (.bool (decide (a = b))) := by
  intro H
  refine ACalls.go joineryref06_Same.low (by simp) fun hcl => ?_
  unfold ints
  generalize hB : decide (a = b) = B
  replace hB := Hold.mk hB
  repeat' (first | simp only [seval, evo, beq_self_eq_true, sb, encI_def, *] | simp (disch := omega) only [if_pos, if_neg] | refine R.seq ?_ | refine LCB.text ?_ | refine LCB.quiet rfl ?_ | refine R.calls rfl ?_ | refine R.block ?_ | refine LCB.skip ?_ | refine LCB.exit ?_ | refine LCB.ret ?_ | ((first | refine RetOk.val hcl ?_ | refine Weak.at hcl ?_); simp only [seval, evw, fm, sb, encI_def, *]) | ((first | refine LCB.cond (by simp only [seval, evo] <;> rfl) ?_ ?_ | refine wpG_split (by simp only [seval, evo] <;> rfl) ?_ ?_ | refine wqG_split (by simp only [seval, evo] <;> rfl) ?_ ?_) <;> (intro hc; try simp only [seval, nf] at hc)) | refine ACalls.inst ?_ | refine CallP.inst rfl ?_)
  refine R.loop (S := Nat) ⟨fun i => [(0, .list (a.map encI)), (1, .list (b.map encI)), (5, .int .i64 (i : Int))], fun i => H ++ [], fun i => i ≤ a.length ∧ i ≤ b.length ∧ decide (a.drop i = b.drop i) = B, fun i => a.length - i⟩ 0 ⟨Nat.zero_le _, Nat.zero_le _, hB.of⟩ (Weak.at hcl ?_) ?_
  · simp only [seval, evw, fm, sb, encI_def, *]
  rintro i ⟨hi, hi2, hq⟩
  simp only at hi hi2 hq ⊢
  by_cases hlt : i < a.length
  · have e1 : (i : Int) < (a.length : Int) := by omega
    by_cases hlt2 : i < b.length
    · have hg := getD_encI hlt
      have hg2 := getD_encI hlt2
      have e2 : (i : Int) < (b.length : Int) := by omega
      have e4 : IntKind.i64.wrap ((i : Int) + 1) = ((i + 1 : Nat) : Int) := by rw [IntKind.wrap_i64]; omega
      have d1 : a.drop i = a.getD i 0 :: a.drop (i + 1) := by
        rw [List.drop_eq_getElem_cons hlt]
        simp [List.getD, hlt]
      have d2 : b.drop i = b.getD i 0 :: b.drop (i + 1) := by
        rw [List.drop_eq_getElem_cons hlt2]
        simp [List.getD, hlt2]
      rw [d1, d2] at hq
      clear d1 d2
      generalize a.getD i 0 = x at *
      generalize b.getD i 0 = y at *
      by_cases hxy : x = y
      · subst hxy
        have hq2 : decide (a.drop (i + 1) = b.drop (i + 1)) = B := by simpa using hq
        clear hq
        replace hq2 := Hold.mk hq2
        repeat' (first | simp only [seval, evo, beq_self_eq_true, sb, encI_def, *] | simp (disch := omega) only [if_pos, if_neg] | refine R.seq ?_ | refine LCB.text ?_ | refine LCB.quiet rfl ?_ | refine R.calls rfl ?_ | refine R.block ?_ | refine LCB.skip ?_ | refine LCB.exit ?_ | refine LCB.ret ?_ | ((first | refine RetOk.val hcl ?_ | refine Weak.at hcl ?_); simp only [seval, evw, fm, sb, encI_def, *]) | ((first | refine LCB.cond (by simp only [seval, evo] <;> rfl) ?_ ?_ | refine wpG_split (by simp only [seval, evo] <;> rfl) ?_ ?_ | refine wqG_split (by simp only [seval, evo] <;> rfl) ?_ ?_) <;> (intro hc; try simp only [seval, nf] at hc)) | refine ACalls.inst ?_ | refine CallP.inst rfl ?_)
        refine ⟨i + 1, ⟨hlt, hlt2, hq2.of⟩, by simp only; omega, Weak.at hcl ?_⟩
        simp only [seval, evw, fm, sb, encI_def, *]
      · have hBf : B = false := by rw [← hq]; simp [hxy]
        subst hBf
        replace hq := Hold.mk hq
        repeat' (first | simp only [seval, evo, beq_self_eq_true, sb, encI_def, *] | simp (disch := omega) only [if_pos, if_neg] | refine R.seq ?_ | refine LCB.text ?_ | refine LCB.quiet rfl ?_ | refine R.calls rfl ?_ | refine R.block ?_ | refine LCB.skip ?_ | refine LCB.exit ?_ | refine LCB.ret ?_ | ((first | refine RetOk.val hcl ?_ | refine Weak.at hcl ?_); simp only [seval, evw, fm, sb, encI_def, *]) | ((first | refine LCB.cond (by simp only [seval, evo] <;> rfl) ?_ ?_ | refine wpG_split (by simp only [seval, evo] <;> rfl) ?_ ?_ | refine wqG_split (by simp only [seval, evo] <;> rfl) ?_ ?_) <;> (intro hc; try simp only [seval, nf] at hc)) | refine ACalls.inst ?_ | refine CallP.inst rfl ?_)
    · have e2 : ¬ (i : Int) < (b.length : Int) := by omega
      have e3 : ¬ (a.length : Int) = (b.length : Int) := by omega
      have hBf : B = false := by
        rw [← hB.of, decide_eq_false_iff_not]
        rintro rfl
        exact e3 rfl
      subst hBf
      replace hq := Hold.mk hq
      repeat' (first | simp only [seval, evo, beq_self_eq_true, sb, encI_def, *] | simp (disch := omega) only [if_pos, if_neg] | refine R.seq ?_ | refine LCB.text ?_ | refine LCB.quiet rfl ?_ | refine R.calls rfl ?_ | refine R.block ?_ | refine LCB.skip ?_ | refine LCB.exit ?_ | refine LCB.ret ?_ | ((first | refine RetOk.val hcl ?_ | refine Weak.at hcl ?_); simp only [seval, evw, fm, sb, encI_def, *]) | ((first | refine LCB.cond (by simp only [seval, evo] <;> rfl) ?_ ?_ | refine wpG_split (by simp only [seval, evo] <;> rfl) ?_ ?_ | refine wqG_split (by simp only [seval, evo] <;> rfl) ?_ ?_) <;> (intro hc; try simp only [seval, nf] at hc)) | refine ACalls.inst ?_ | refine CallP.inst rfl ?_)
  · have e1 : ¬ (i : Int) < (a.length : Int) := by omega
    have hBe : decide ((a.length : Int) = (b.length : Int)) = B := by
      have hia : i = a.length := by omega
      rw [← hq, hia, List.drop_length]
      rw [Bool.eq_iff_iff]
      simp
      constructor
      · intro h; omega
      · intro h; omega
    replace hq := Hold.mk hq
    repeat' (first | simp only [seval, evo, beq_self_eq_true, sb, encI_def, *] | simp (disch := omega) only [if_pos, if_neg] | refine R.seq ?_ | refine LCB.text ?_ | refine LCB.quiet rfl ?_ | refine R.calls rfl ?_ | refine R.block ?_ | refine LCB.skip ?_ | refine LCB.exit ?_ | refine LCB.ret ?_ | ((first | refine RetOk.val hcl ?_ | refine Weak.at hcl ?_); simp only [seval, evw, fm, sb, encI_def, *]) | ((first | refine LCB.cond (by simp only [seval, evo] <;> rfl) ?_ ?_ | refine wpG_split (by simp only [seval, evo] <;> rfl) ?_ ?_ | refine wqG_split (by simp only [seval, evo] <;> rfl) ?_ ?_) <;> (intro hc; try simp only [seval, nf] at hc)) | refine ACalls.inst ?_ | refine CallP.inst rfl ?_)
end Go.Proofs.YtphmakopjfbmnaaDoor
namespace Go.Proofs.YtphmakopjfbmnaaDoor
open Go.RowKit
set_option linter.unusedVariables false
set_option linter.unusedSimpArgs false
structure W where
  is : Bool
  v : Int
deriving DecidableEq
def noW : W := ⟨false, 0⟩
def encW (w : W) : List AV := [.bool w.is, .int .i64 w.v]
theorem encW_def {w : W} : encW w = [.bool w.is, .int .i64 w.v] := rfl
def wc (L : List W) : List AV := L.flatMap encW
theorem wc_cons {w : W} {L : List W} : wc (w :: L) = .bool w.is :: .int .i64 w.v :: wc L := rfl
theorem wc_len : ∀ (L : List W), (wc L).length = 2 * L.length
  | [] => rfl
  | w :: L => by rw [wc_cons]; simp [wc_len L]; omega
theorem wc_pair : ∀ (L : List W) (i : Nat), i < L.length → ((wc L).drop (i * 2)).take 2 = encW (L.getD i noW)
  | [], i, h => by simp at h
  | w :: L, 0, h => rfl
  | w :: L, i + 1, h => by
    have e : (i + 1) * 2 = i * 2 + 1 + 1 := by omega
    rw [wc_cons, e, List.drop_succ_cons, List.drop_succ_cons, wc_pair L i (by simpa using h)]
    rfl
theorem wc_is : ∀ (L : List W) (i : Nat), i < L.length → (wc L)[i * 2]? = some (.bool (L.getD i noW).is)
  | [], i, h => by simp at h
  | w :: L, 0, h => rfl
  | w :: L, i + 1, h => by
    have e : (i + 1) * 2 = i * 2 + 1 + 1 := by omega
    rw [wc_cons, e, List.getElem?_cons_succ, List.getElem?_cons_succ, wc_is L i (by simpa using h)]
    rfl
theorem wc_v : ∀ (L : List W) (i : Nat), i < L.length → (wc L)[i * 2 + 1]? = some (.int .i64 (L.getD i noW).v)
  | [], i, h => by simp at h
  | w :: L, 0, h => rfl
  | w :: L, i + 1, h => by
    have e : (i + 1) * 2 + 1 = (i * 2 + 1) + 1 + 1 := by omega
    rw [wc_cons, e, List.getElem?_cons_succ, List.getElem?_cons_succ, wc_v L i (by simpa using h)]
    rfl
theorem wc_put : ∀ (L : List W) (i : Nat) (w : W), i < L.length → (wc L).take (i * 2) ++ .bool w.is :: .int .i64 w.v :: (wc L).drop (i * 2 + 2) = wc (L.set i w)
  | [], i, _, h => by simp at h
  | u :: L, 0, w, h => rfl
  | u :: L, i + 1, w, h => by
    have e : (i + 1) * 2 = i * 2 + 1 + 1 := by omega
    have e2 : (i + 1) * 2 + 2 = (i * 2 + 2) + 1 + 1 := by omega
    rw [wc_cons, e2, e, List.take_succ_cons, List.take_succ_cons, List.drop_succ_cons, List.drop_succ_cons, List.set_cons_succ, wc_cons, ← wc_put L i w (by simpa using h)]
    rfl
section
variable {L : List W} {r : List AV} {i : Nat}
theorem wr_pair (h : i < L.length) : ((wc L ++ r).drop (i * 2)).take 2 = encW (L.getD i noW) := by
  have hl := wc_len L
  rw [List.drop_append_of_le_length (by omega), List.take_append_of_le_length (by rw [List.length_drop]; omega), wc_pair L i h]
theorem wr_is (h : i < L.length) : (wc L ++ r)[i * 2]? = some (.bool (L.getD i noW).is) := by
  have hl := wc_len L
  rw [List.getElem?_append_left (by omega), wc_is L i h]
theorem wr_v (h : i < L.length) : (wc L ++ r)[i * 2 + 1]? = some (.int .i64 (L.getD i noW).v) := by
  have hl := wc_len L
  rw [List.getElem?_append_left (by omega), wc_v L i h]
theorem wr_put (w : W) (h : i < L.length) : (wc L ++ r).take (i * 2) ++ .bool w.is :: .int .i64 w.v :: (wc L ++ r).drop (i * 2 + 2) = wc (L.set i w) ++ r := by
  have hl := wc_len L
  rw [List.take_append_of_le_length (by omega), List.drop_append_of_le_length (by omega), ← wc_put L i w h]
  simp
theorem wr_put2 (w : W) (h : i < L.length) : (wc L ++ r).take (i * 2) ++ [.bool w.is, .int .i64 w.v] ++ (wc L ++ r).drop (i * 2 + 2) = wc (L.set i w) ++ r := by
  rw [← wr_put w h]; simp
end
theorem wc_clean (m : Nat) : ∀ L : List W, cleanAll m (wc L) = true
  | [] => rfl
  | w :: L => by rw [wc_cons, cleanAll, cleanAll, wc_clean m L]; rfl
theorem cleanAll_app {m : Nat} : ∀ {a b : List AV}, cleanAll m (a ++ b) = (cleanAll m a && cleanAll m b)
  | [], b => by simp [cleanAll]
  | x :: a, b => by rw [List.cons_append, cleanAll, cleanAll, cleanAll_app, Bool.and_assoc]
theorem cl_wc {m : Nat} {L : List W} {r : List AV} : cleanAll m (wc L ++ r) = cleanAll m r := by rw [cleanAll_app, wc_clean, Bool.true_and]
theorem cl_wc0 {m : Nat} {L : List W} : cleanAll m (wc L) = true := wc_clean m L
theorem ac_wc : ∀ L : List W, allCells (wc L) = true
  | [] => rfl
  | w :: L => by
    have := ac_wc L
    rw [wc_cons]
    unfold allCells at *
    rw [List.all_cons, List.all_cons, this]
    rfl
theorem ac_app {a b : List AV} : allCells (a ++ b) = (allCells a && allCells b) := by unfold allCells; rw [List.all_append]
theorem ac_wcr {L : List W} {r : List AV} : allCells (wc L ++ r) = allCells r := by rw [ac_app, ac_wc, Bool.true_and]
theorem ac_wc0 {L : List W} : allCells (wc L) = true := ac_wc L
theorem Views.pre {H : List AObj} {m : Nat} {x y : List AV} : ∀ {a : List AV}, cleanAll m a = true → Views H m x y → Views H m (a ++ x) (a ++ y)
  | [], _, h => h
  | b :: a, hc, h => by
    simp only [cleanAll, Bool.and_eq_true] at hc
    exact .cons b b _ _ (.same b hc.1) (Views.pre hc.2 h)
theorem Views.post {H : List AObj} {m : Nat} {x y : List AV} : ∀ {a : List AV}, Views H m (a ++ x) (a ++ y) → Views H m x y
  | [], h => h
  | b :: a, h => by
    cases h with
    | cons _ _ _ _ h1 h2 => exact Views.post h2
theorem vws_wc {H : List AObj} {m : Nat} {L : List W} {x y : List AV} : Views H m (wc L ++ x) (wc L ++ y) = Views H m x y := propext ⟨Views.post, Views.pre (wc_clean m L)⟩
theorem vws_wc0 {H : List AObj} {m : Nat} {L : List W} : Views H m (wc L) (wc L) = True := vws_same (wc_clean m L)
theorem Loses.pre {H G : List AObj} {x y : List AV} : ∀ {a : List AV}, Loses H G x y → Loses H G (a ++ x) (a ++ y)
  | [], h => h
  | b :: a, h => .cons b b _ _ (.same b) (Loses.pre h)
theorem Loses.post {H G : List AObj} {x y : List AV} : ∀ {a : List AV}, Loses H G (a ++ x) (a ++ y) → Loses H G x y
  | [], h => h
  | b :: a, h => by
    cases h with
    | cons _ _ _ _ h1 h2 => exact Loses.post h2
theorem lss_wc {H G : List AObj} {L : List W} {x y : List AV} : Loses H G (wc L ++ x) (wc L ++ y) = Loses H G x y := propext ⟨Loses.post, Loses.pre⟩
theorem tk_hi {L : List W} {b : List AV} {n : Nat} (h : (wc L).length ≤ n) : (wc L ++ b).take n = wc L ++ b.take (n - (wc L).length) := by rw [List.take_append, List.take_of_length_le h]
theorem dr_hi {L : List W} {b : List AV} {n : Nat} (h : (wc L).length ≤ n) : (wc L ++ b).drop n = b.drop (n - (wc L).length) := by rw [List.drop_append, List.drop_of_length_le h, List.nil_append]
theorem gt_hi {L : List W} {b : List AV} {n : Nat} (h : (wc L).length ≤ n) : (wc L ++ b)[n]? = b[n - (wc L).length]? := List.getElem?_append_right h
theorem ln_app {L : List W} {b : List AV} : (wc L ++ b).length = (wc L).length + b.length := List.length_append
theorem wc_nil {L : List W} : wc L ++ [] = wc L := List.append_nil _
theorem wc_app {L : List W} {a b : List AV} : (wc L ++ a) ++ b = wc L ++ (a ++ b) := List.append_assoc _ _ _
theorem ew : type_of% (And.intro @wc_nil (And.intro @wc_app (And.intro @cl_wc (And.intro @cl_wc0 (And.intro @ac_wcr (And.intro @ac_wc0 (And.intro @vws_wc (And.intro @vws_wc0 (And.intro @lss_wc (And.intro @tk_hi (And.intro @dr_hi (And.intro @gt_hi (And.intro @ln_app (And.intro @encW_def (@encI_def))))))))))))))) :=
  And.intro @wc_nil (And.intro @wc_app (And.intro @cl_wc (And.intro @cl_wc0 (And.intro @ac_wcr (And.intro @ac_wc0 (And.intro @vws_wc (And.intro @vws_wc0 (And.intro @lss_wc (And.intro @tk_hi (And.intro @dr_hi (And.intro @gt_hi (And.intro @ln_app (And.intro @encW_def (@encI_def))))))))))))))
structure St where
  L : List W
  heap : List Int
  pc : Int
  asked : Int
deriving DecidableEq
def stCells (s : St) : List AV := wc s.L ++ [ints s.heap, .int .i64 s.pc, .int .i64 s.asked]
def stA (s : St) : AV := .agg (stCells s)
theorem stA_eq (s : St) : stA s = .agg (wc s.L ++ [.list (s.heap.map encI), .int .i64 s.pc, .int .i64 s.asked]) := rfl
structure Ev where
  n : Int
  arg : Int
  ans : Int
deriving DecidableEq
def encEv (e : Ev) : List AV := [.int .i64 e.n, .int .i64 e.arg, .int .i64 e.ans]
theorem encEv_def {e : Ev} : encEv e = [.int .i64 e.n, .int .i64 e.arg, .int .i64 e.ans] := rfl
def evs (l : List Ev) : AV := .list (l.map encEv)
theorem evs_eq (l : List Ev) : evs l = .list (l.map encEv) := rfl
structure Out where
  how : Int
  value : Int
  heap : List Int
deriving DecidableEq
def outA (o : Out) : AV := .agg [.int .i64 o.how, .int .i64 o.value, ints o.heap]
theorem outA_eq (o : Out) : outA o = .agg [.int .i64 o.how, .int .i64 o.value, .list (o.heap.map encI)] := rfl
def okW (w : W) : Bool := w.is || decide (w.v = 0)
def stRight (f : List Ins) (s : St) : Bool := fnOk f && (decide (0 ≤ s.pc) && (decide (s.pc < (f.length : Int)) && (decide (s.heap.length ≤ 16) && (decide (0 ≤ s.asked) && s.L.all okW))))
theorem drop_W {l : List W} {j : Nat} (h : j < l.length) : l.drop j = l.getD j noW :: l.drop (j + 1) := by
  rw [List.drop_eq_getElem_cons h]
  simp [List.getD, h]
set_option maxHeartbeats 2000000 in
theorem step_Right_ok (f : List Ins) (s : St) (hL : s.L.length = 24) : Pure Tryd.prog 51 [encFn f, stA s] (.bool (stRight f s)) := by
  intro H
  refine ACalls.go step_Right.low (by simp) fun hcl => ?_
  have hwl : (wc s.L).length = 48 := by rw [wc_len, hL]
  rw [stA_eq]
  have h1 := Hold.mk (asm_Right_ok f)
  have hr : stRight f s = (fnOk f && (decide (0 ≤ s.pc) && (decide (s.pc < (f.length : Int)) && (decide (s.heap.length ≤ 16) && (decide (0 ≤ s.asked) && s.L.all okW))))) := rfl
  rw [hr]
  clear hr
  generalize fnOk f = b1 at *
  unfold encFn at *
  cases b1
  · repeat' (first | simp only [seval, evx, beq_self_eq_true, sb, ew, insA, encIns, ins_dec, ins_eta, *] | simp (disch := omega) only [if_pos, if_neg] | refine R.seq ?_ | refine LCB.text ?_ | refine LCB.quiet rfl ?_ | refine R.anyX ?_ | refine R.block ?_ | refine LCB.skip ?_ | refine LCB.exit ?_ | refine LCB.ret ?_ | ((first | refine RetOk.val hcl ?_ | refine Weak.at hcl ?_); simp only [seval, evw, fm, sb, ew, insA, encIns, ins_dec, ins_eta, *]) | ((first | refine LCB.cond (by simp only [seval, evx] <;> rfl) ?_ ?_ | refine wpG_split (by simp only [seval, evx] <;> rfl) ?_ ?_ | refine wxG_split (by simp only [seval, evx] <;> rfl) ?_ ?_) <;> (intro hc; try simp only [seval, nf] at hc)) | refine ACalls.inst ?_ | refine CallX.inst ?_ | (with_reducible refine And.intro ?_ ?_) | exact True.intro)
    first | refine ACalls.pure (h1.of) ?_ | refine CallP.pure (h1.of) rfl ?_ | refine CallX.pure (h1.of) ?_
    repeat' (first | simp only [seval, evx, beq_self_eq_true, sb, ew, insA, encIns, ins_dec, ins_eta, *] | simp (disch := omega) only [if_pos, if_neg] | refine R.seq ?_ | refine LCB.text ?_ | refine LCB.quiet rfl ?_ | refine R.anyX ?_ | refine R.block ?_ | refine LCB.skip ?_ | refine LCB.exit ?_ | refine LCB.ret ?_ | ((first | refine RetOk.val hcl ?_ | refine Weak.at hcl ?_); simp only [seval, evw, fm, sb, ew, insA, encIns, ins_dec, ins_eta, *]) | ((first | refine LCB.cond (by simp only [seval, evx] <;> rfl) ?_ ?_ | refine wpG_split (by simp only [seval, evx] <;> rfl) ?_ ?_ | refine wxG_split (by simp only [seval, evx] <;> rfl) ?_ ?_) <;> (intro hc; try simp only [seval, nf] at hc)) | refine ACalls.inst ?_ | refine CallX.inst ?_ | (with_reducible refine And.intro ?_ ?_) | exact True.intro)
  by_cases k2 : s.pc < 0
  · have e2 : decide (0 ≤ s.pc) = false := decide_eq_false (by omega)
    repeat' (first | simp only [seval, evx, beq_self_eq_true, sb, ew, insA, encIns, ins_dec, ins_eta, *] | simp (disch := omega) only [if_pos, if_neg] | refine R.seq ?_ | refine LCB.text ?_ | refine LCB.quiet rfl ?_ | refine R.anyX ?_ | refine R.block ?_ | refine LCB.skip ?_ | refine LCB.exit ?_ | refine LCB.ret ?_ | ((first | refine RetOk.val hcl ?_ | refine Weak.at hcl ?_); simp only [seval, evw, fm, sb, ew, insA, encIns, ins_dec, ins_eta, *]) | ((first | refine LCB.cond (by simp only [seval, evx] <;> rfl) ?_ ?_ | refine wpG_split (by simp only [seval, evx] <;> rfl) ?_ ?_ | refine wxG_split (by simp only [seval, evx] <;> rfl) ?_ ?_) <;> (intro hc; try simp only [seval, nf] at hc)) | refine ACalls.inst ?_ | refine CallX.inst ?_ | (with_reducible refine And.intro ?_ ?_) | exact True.intro)
    first | refine ACalls.pure (h1.of) ?_ | refine CallP.pure (h1.of) rfl ?_ | refine CallX.pure (h1.of) ?_
    repeat' (first | simp only [seval, evx, beq_self_eq_true, sb, ew, insA, encIns, ins_dec, ins_eta, *] | simp (disch := omega) only [if_pos, if_neg] | refine R.seq ?_ | refine LCB.text ?_ | refine LCB.quiet rfl ?_ | refine R.anyX ?_ | refine R.block ?_ | refine LCB.skip ?_ | refine LCB.exit ?_ | refine LCB.ret ?_ | ((first | refine RetOk.val hcl ?_ | refine Weak.at hcl ?_); simp only [seval, evw, fm, sb, ew, insA, encIns, ins_dec, ins_eta, *]) | ((first | refine LCB.cond (by simp only [seval, evx] <;> rfl) ?_ ?_ | refine wpG_split (by simp only [seval, evx] <;> rfl) ?_ ?_ | refine wxG_split (by simp only [seval, evx] <;> rfl) ?_ ?_) <;> (intro hc; try simp only [seval, nf] at hc)) | refine ACalls.inst ?_ | refine CallX.inst ?_ | (with_reducible refine And.intro ?_ ?_) | exact True.intro)
  have e2 : decide (0 ≤ s.pc) = true := decide_eq_true (by omega)
  by_cases k3 : s.pc < (f.length : Int)
  case neg =>
    have e6 : (f.length : Int) ≤ s.pc := by omega
    repeat' (first | simp only [seval, evx, beq_self_eq_true, sb, ew, insA, encIns, ins_dec, ins_eta, *] | simp (disch := omega) only [if_pos, if_neg] | refine R.seq ?_ | refine LCB.text ?_ | refine LCB.quiet rfl ?_ | refine R.anyX ?_ | refine R.block ?_ | refine LCB.skip ?_ | refine LCB.exit ?_ | refine LCB.ret ?_ | ((first | refine RetOk.val hcl ?_ | refine Weak.at hcl ?_); simp only [seval, evw, fm, sb, ew, insA, encIns, ins_dec, ins_eta, *]) | ((first | refine LCB.cond (by simp only [seval, evx] <;> rfl) ?_ ?_ | refine wpG_split (by simp only [seval, evx] <;> rfl) ?_ ?_ | refine wxG_split (by simp only [seval, evx] <;> rfl) ?_ ?_) <;> (intro hc; try simp only [seval, nf] at hc)) | refine ACalls.inst ?_ | refine CallX.inst ?_ | (with_reducible refine And.intro ?_ ?_) | exact True.intro)
    first | refine ACalls.pure (h1.of) ?_ | refine CallP.pure (h1.of) rfl ?_ | refine CallX.pure (h1.of) ?_
    repeat' (first | simp only [seval, evx, beq_self_eq_true, sb, ew, insA, encIns, ins_dec, ins_eta, *] | simp (disch := omega) only [if_pos, if_neg] | refine R.seq ?_ | refine LCB.text ?_ | refine LCB.quiet rfl ?_ | refine R.anyX ?_ | refine R.block ?_ | refine LCB.skip ?_ | refine LCB.exit ?_ | refine LCB.ret ?_ | ((first | refine RetOk.val hcl ?_ | refine Weak.at hcl ?_); simp only [seval, evw, fm, sb, ew, insA, encIns, ins_dec, ins_eta, *]) | ((first | refine LCB.cond (by simp only [seval, evx] <;> rfl) ?_ ?_ | refine wpG_split (by simp only [seval, evx] <;> rfl) ?_ ?_ | refine wxG_split (by simp only [seval, evx] <;> rfl) ?_ ?_) <;> (intro hc; try simp only [seval, nf] at hc)) | refine ACalls.inst ?_ | refine CallX.inst ?_ | (with_reducible refine And.intro ?_ ?_) | exact True.intro)
  by_cases k4 : s.heap.length ≤ 16
  case neg =>
    repeat' (first | simp only [seval, evx, beq_self_eq_true, sb, ew, insA, encIns, ins_dec, ins_eta, *] | simp (disch := omega) only [if_pos, if_neg] | refine R.seq ?_ | refine LCB.text ?_ | refine LCB.quiet rfl ?_ | refine R.anyX ?_ | refine R.block ?_ | refine LCB.skip ?_ | refine LCB.exit ?_ | refine LCB.ret ?_ | ((first | refine RetOk.val hcl ?_ | refine Weak.at hcl ?_); simp only [seval, evw, fm, sb, ew, insA, encIns, ins_dec, ins_eta, *]) | ((first | refine LCB.cond (by simp only [seval, evx] <;> rfl) ?_ ?_ | refine wpG_split (by simp only [seval, evx] <;> rfl) ?_ ?_ | refine wxG_split (by simp only [seval, evx] <;> rfl) ?_ ?_) <;> (intro hc; try simp only [seval, nf] at hc)) | refine ACalls.inst ?_ | refine CallX.inst ?_ | (with_reducible refine And.intro ?_ ?_) | exact True.intro)
    first | refine ACalls.pure (h1.of) ?_ | refine CallP.pure (h1.of) rfl ?_ | refine CallX.pure (h1.of) ?_
    repeat' (first | simp only [seval, evx, beq_self_eq_true, sb, ew, insA, encIns, ins_dec, ins_eta, *] | simp (disch := omega) only [if_pos, if_neg] | refine R.seq ?_ | refine LCB.text ?_ | refine LCB.quiet rfl ?_ | refine R.anyX ?_ | refine R.block ?_ | refine LCB.skip ?_ | refine LCB.exit ?_ | refine LCB.ret ?_ | ((first | refine RetOk.val hcl ?_ | refine Weak.at hcl ?_); simp only [seval, evw, fm, sb, ew, insA, encIns, ins_dec, ins_eta, *]) | ((first | refine LCB.cond (by simp only [seval, evx] <;> rfl) ?_ ?_ | refine wpG_split (by simp only [seval, evx] <;> rfl) ?_ ?_ | refine wxG_split (by simp only [seval, evx] <;> rfl) ?_ ?_) <;> (intro hc; try simp only [seval, nf] at hc)) | refine ACalls.inst ?_ | refine CallX.inst ?_ | (with_reducible refine And.intro ?_ ?_) | exact True.intro)
  by_cases k5 : s.asked < 0
  · have e5 : decide (0 ≤ s.asked) = false := decide_eq_false (by omega)
    repeat' (first | simp only [seval, evx, beq_self_eq_true, sb, ew, insA, encIns, ins_dec, ins_eta, *] | simp (disch := omega) only [if_pos, if_neg] | refine R.seq ?_ | refine LCB.text ?_ | refine LCB.quiet rfl ?_ | refine R.anyX ?_ | refine R.block ?_ | refine LCB.skip ?_ | refine LCB.exit ?_ | refine LCB.ret ?_ | ((first | refine RetOk.val hcl ?_ | refine Weak.at hcl ?_); simp only [seval, evw, fm, sb, ew, insA, encIns, ins_dec, ins_eta, *]) | ((first | refine LCB.cond (by simp only [seval, evx] <;> rfl) ?_ ?_ | refine wpG_split (by simp only [seval, evx] <;> rfl) ?_ ?_ | refine wxG_split (by simp only [seval, evx] <;> rfl) ?_ ?_) <;> (intro hc; try simp only [seval, nf] at hc)) | refine ACalls.inst ?_ | refine CallX.inst ?_ | (with_reducible refine And.intro ?_ ?_) | exact True.intro)
    first | refine ACalls.pure (h1.of) ?_ | refine CallP.pure (h1.of) rfl ?_ | refine CallX.pure (h1.of) ?_
    repeat' (first | simp only [seval, evx, beq_self_eq_true, sb, ew, insA, encIns, ins_dec, ins_eta, *] | simp (disch := omega) only [if_pos, if_neg] | refine R.seq ?_ | refine LCB.text ?_ | refine LCB.quiet rfl ?_ | refine R.anyX ?_ | refine R.block ?_ | refine LCB.skip ?_ | refine LCB.exit ?_ | refine LCB.ret ?_ | ((first | refine RetOk.val hcl ?_ | refine Weak.at hcl ?_); simp only [seval, evw, fm, sb, ew, insA, encIns, ins_dec, ins_eta, *]) | ((first | refine LCB.cond (by simp only [seval, evx] <;> rfl) ?_ ?_ | refine wpG_split (by simp only [seval, evx] <;> rfl) ?_ ?_ | refine wxG_split (by simp only [seval, evx] <;> rfl) ?_ ?_) <;> (intro hc; try simp only [seval, nf] at hc)) | refine ACalls.inst ?_ | refine CallX.inst ?_ | (with_reducible refine And.intro ?_ ?_) | exact True.intro)
  have e5 : decide (0 ≤ s.asked) = true := decide_eq_true (by omega)
  have e6 : ¬ (f.length : Int) ≤ s.pc := by omega
  generalize hB : s.L.all okW = B
  replace hB := Hold.mk hB
  replace hL := Hold.mk hL
  repeat' (first | simp only [seval, evx, beq_self_eq_true, sb, ew, insA, encIns, ins_dec, ins_eta, *] | simp (disch := omega) only [if_pos, if_neg] | refine R.seq ?_ | refine LCB.text ?_ | refine LCB.quiet rfl ?_ | refine R.anyX ?_ | refine R.block ?_ | refine LCB.skip ?_ | refine LCB.exit ?_ | refine LCB.ret ?_ | ((first | refine RetOk.val hcl ?_ | refine Weak.at hcl ?_); simp only [seval, evw, fm, sb, ew, insA, encIns, ins_dec, ins_eta, *]) | ((first | refine LCB.cond (by simp only [seval, evx] <;> rfl) ?_ ?_ | refine wpG_split (by simp only [seval, evx] <;> rfl) ?_ ?_ | refine wxG_split (by simp only [seval, evx] <;> rfl) ?_ ?_) <;> (intro hc; try simp only [seval, nf] at hc)) | refine ACalls.inst ?_ | refine CallX.inst ?_ | (with_reducible refine And.intro ?_ ?_) | exact True.intro)
  first | refine ACalls.pure (h1.of) ?_ | refine CallP.pure (h1.of) rfl ?_ | refine CallX.pure (h1.of) ?_
  repeat' (first | simp only [seval, evx, beq_self_eq_true, sb, ew, insA, encIns, ins_dec, ins_eta, *] | simp (disch := omega) only [if_pos, if_neg] | refine R.seq ?_ | refine LCB.text ?_ | refine LCB.quiet rfl ?_ | refine R.anyX ?_ | refine R.block ?_ | refine LCB.skip ?_ | refine LCB.exit ?_ | refine LCB.ret ?_ | ((first | refine RetOk.val hcl ?_ | refine Weak.at hcl ?_); simp only [seval, evw, fm, sb, ew, insA, encIns, ins_dec, ins_eta, *]) | ((first | refine LCB.cond (by simp only [seval, evx] <;> rfl) ?_ ?_ | refine wpG_split (by simp only [seval, evx] <;> rfl) ?_ ?_ | refine wxG_split (by simp only [seval, evx] <;> rfl) ?_ ?_) <;> (intro hc; try simp only [seval, nf] at hc)) | refine ACalls.inst ?_ | refine CallX.inst ?_ | (with_reducible refine And.intro ?_ ?_) | exact True.intro)
  refine R.loop (S := Nat) ⟨fun i => [(34, .agg (wc s.L)), (35, .int .i64 (i : Int))], fun i => H ++ [], fun i => i ≤ 24 ∧ (s.L.drop i).all okW = B, fun i => 24 - i⟩ 0 ⟨Nat.zero_le _, hB.of⟩ (Weak.at hcl ?_) ?_
  · simp only [seval, evw, fm, sb, ew, insA, encIns, ins_dec, ins_eta, *]
  rintro i ⟨hi, hq⟩
  simp only at hi hq ⊢
  by_cases hlt : i < 24
  · have hll := hL.of
    have d1 : (i : Int) < 24 := by omega
    have d2 : IntKind.i64.wrap ((i : Int) + 1) = ((i + 1 : Nat) : Int) := by rw [IntKind.wrap_i64]; omega
    have hg := wc_pair s.L i (by omega)
    rw [drop_W (by omega), List.all_cons] at hq
    have d3 : i * 2 + 2 ≤ 48 := by omega
    generalize s.L.getD i noW = w at *
    obtain ⟨wi, wv⟩ := w
    simp only [encW_def] at hg
    clear hll
    cases wi
    · by_cases hv : wv = 0
      · subst hv
        have hq2 : (s.L.drop (i + 1)).all okW = B := by simpa [okW] using hq
        replace hq2 := Hold.mk hq2
        replace hq := Hold.mk hq
        repeat' (first | simp only [seval, evx, beq_self_eq_true, sb, ew, insA, encIns, ins_dec, ins_eta, *] | simp (disch := omega) only [if_pos, if_neg] | refine R.seq ?_ | refine LCB.text ?_ | refine LCB.quiet rfl ?_ | refine R.anyX ?_ | refine R.block ?_ | refine LCB.skip ?_ | refine LCB.exit ?_ | refine LCB.ret ?_ | ((first | refine RetOk.val hcl ?_ | refine Weak.at hcl ?_); simp only [seval, evw, fm, sb, ew, insA, encIns, ins_dec, ins_eta, *]) | ((first | refine LCB.cond (by simp only [seval, evx] <;> rfl) ?_ ?_ | refine wpG_split (by simp only [seval, evx] <;> rfl) ?_ ?_ | refine wxG_split (by simp only [seval, evx] <;> rfl) ?_ ?_) <;> (intro hc; try simp only [seval, nf] at hc)) | refine ACalls.inst ?_ | refine CallX.inst ?_ | (with_reducible refine And.intro ?_ ?_) | exact True.intro)
        refine ⟨i + 1, ⟨hlt, hq2.of⟩, by simp only; omega, Weak.at hcl ?_⟩
        simp only [seval, evw, fm, sb, ew, insA, encIns, ins_dec, ins_eta, *]
      · have hBf : B = false := by rw [← hq]; simp [okW, hv]
        subst hBf
        replace hq := Hold.mk hq
        repeat' (first | simp only [seval, evx, beq_self_eq_true, sb, ew, insA, encIns, ins_dec, ins_eta, *] | simp (disch := omega) only [if_pos, if_neg] | refine R.seq ?_ | refine LCB.text ?_ | refine LCB.quiet rfl ?_ | refine R.anyX ?_ | refine R.block ?_ | refine LCB.skip ?_ | refine LCB.exit ?_ | refine LCB.ret ?_ | ((first | refine RetOk.val hcl ?_ | refine Weak.at hcl ?_); simp only [seval, evw, fm, sb, ew, insA, encIns, ins_dec, ins_eta, *]) | ((first | refine LCB.cond (by simp only [seval, evx] <;> rfl) ?_ ?_ | refine wpG_split (by simp only [seval, evx] <;> rfl) ?_ ?_ | refine wxG_split (by simp only [seval, evx] <;> rfl) ?_ ?_) <;> (intro hc; try simp only [seval, nf] at hc)) | refine ACalls.inst ?_ | refine CallX.inst ?_ | (with_reducible refine And.intro ?_ ?_) | exact True.intro)
    · have hq2 : (s.L.drop (i + 1)).all okW = B := by simpa [okW] using hq
      replace hq2 := Hold.mk hq2
      replace hq := Hold.mk hq
      repeat' (first | simp only [seval, evx, beq_self_eq_true, sb, ew, insA, encIns, ins_dec, ins_eta, *] | simp (disch := omega) only [if_pos, if_neg] | refine R.seq ?_ | refine LCB.text ?_ | refine LCB.quiet rfl ?_ | refine R.anyX ?_ | refine R.block ?_ | refine LCB.skip ?_ | refine LCB.exit ?_ | refine LCB.ret ?_ | ((first | refine RetOk.val hcl ?_ | refine Weak.at hcl ?_); simp only [seval, evw, fm, sb, ew, insA, encIns, ins_dec, ins_eta, *]) | ((first | refine LCB.cond (by simp only [seval, evx] <;> rfl) ?_ ?_ | refine wpG_split (by simp only [seval, evx] <;> rfl) ?_ ?_ | refine wxG_split (by simp only [seval, evx] <;> rfl) ?_ ?_) <;> (intro hc; try simp only [seval, nf] at hc)) | refine ACalls.inst ?_ | refine CallX.inst ?_ | (with_reducible refine And.intro ?_ ?_) | exact True.intro)
      refine ⟨i + 1, ⟨hlt, hq2.of⟩, by simp only; omega, Weak.at hcl ?_⟩
      simp only [seval, evw, fm, sb, ew, insA, encIns, ins_dec, ins_eta, *]
  · have hie : i = 24 := by omega
    subst hie
    have hBt : B = true := by rw [← hq, List.drop_of_length_le (by rw [hL.of]; omega)]; rfl
    subst hBt
    replace hq := Hold.mk hq
    repeat' (first | simp only [seval, evx, beq_self_eq_true, sb, ew, insA, encIns, ins_dec, ins_eta, *] | simp (disch := omega) only [if_pos, if_neg] | refine R.seq ?_ | refine LCB.text ?_ | refine LCB.quiet rfl ?_ | refine R.anyX ?_ | refine R.block ?_ | refine LCB.skip ?_ | refine LCB.exit ?_ | refine LCB.ret ?_ | ((first | refine RetOk.val hcl ?_ | refine Weak.at hcl ?_); simp only [seval, evw, fm, sb, ew, insA, encIns, ins_dec, ins_eta, *]) | ((first | refine LCB.cond (by simp only [seval, evx] <;> rfl) ?_ ?_ | refine wpG_split (by simp only [seval, evx] <;> rfl) ?_ ?_ | refine wxG_split (by simp only [seval, evx] <;> rfl) ?_ ?_) <;> (intro hc; try simp only [seval, nf] at hc)) | refine ACalls.inst ?_ | refine CallX.inst ?_ | (with_reducible refine And.intro ?_ ?_) | exact True.intro)
end Go.Proofs.YtphmakopjfbmnaaDoor
namespace Go.Proofs.YtphmakopjfbmnaaDoor
open Go.RowKit
set_option linter.unusedVariables false
set_option linter.unusedSimpArgs false
def scA : Sc → AV
  | .was l => .iface 112 (.agg [.int .i64 (l : Int)])
  | .is n => .iface 115 (.agg [.int .i64 n])
theorem scA_was {l : Nat} : scA (.was l) = .iface 112 (.agg [.int .i64 (l : Int)]) := rfl
theorem scA_is {n : Int} : scA (.is n) = .iface 115 (.agg [.int .i64 n]) := rfl
def tbc (T : Tb) : List AV := T.map scA
theorem tbc_len (T : Tb) : (tbc T).length = T.length := by simp [tbc]
theorem scA_clean (m : Nat) (s : Sc) : (scA s).clean m = true := by cases s <;> rfl
theorem scA_cell (s : Sc) : (scA s).cell = true := by cases s <;> rfl
theorem tbc_clean (m : Nat) : ∀ T : Tb, cleanAll m (tbc T) = true
  | [] => rfl
  | s :: T => by rw [show tbc (s :: T) = scA s :: tbc T from rfl, cleanAll, scA_clean, tbc_clean m T]; rfl
theorem cl_tb0 {m : Nat} {T : Tb} : cleanAll m (tbc T) = true := tbc_clean m T
theorem cl_tb {m : Nat} {T : Tb} {r : List AV} : cleanAll m (tbc T ++ r) = cleanAll m r := by rw [cleanAll_app, tbc_clean, Bool.true_and]
theorem ac_tb0 : ∀ {T : Tb}, allCells (tbc T) = true
  | [] => rfl
  | s :: T => by rw [show tbc (s :: T) = scA s :: tbc T from rfl, ac_cons, scA_cell, @ac_tb0 T]; rfl
theorem ac_tb {T : Tb} {r : List AV} : allCells (tbc T ++ r) = allCells r := by rw [ac_app, ac_tb0, Bool.true_and]
theorem vws_tb0 {H : List AObj} {m : Nat} {T : Tb} : Views H m (tbc T) (tbc T) = True := vws_same (tbc_clean m T)
theorem vws_tb {H : List AObj} {m : Nat} {T : Tb} {x y : List AV} : Views H m (tbc T ++ x) (tbc T ++ y) = Views H m x y := propext ⟨Views.post, Views.pre (tbc_clean m T)⟩
theorem lss_tb {H G : List AObj} {T : Tb} {x y : List AV} : Loses H G (tbc T ++ x) (tbc T ++ y) = Loses H G x y := propext ⟨Loses.post, Loses.pre⟩
theorem vw_sc {H : List AObj} {m : Nat} {s : Sc} : View H m (scA s) (scA s) = True := eq_true (.same _ (scA_clean m s))
theorem tt_hi {T : Tb} {b : List AV} {n : Nat} (h : (tbc T).length ≤ n) : (tbc T ++ b).take n = tbc T ++ b.take (n - (tbc T).length) := by rw [List.take_append, List.take_of_length_le h]
theorem dt_hi {T : Tb} {b : List AV} {n : Nat} (h : (tbc T).length ≤ n) : (tbc T ++ b).drop n = b.drop (n - (tbc T).length) := by rw [List.drop_append, List.drop_of_length_le h, List.nil_append]
theorem gt_hi' {T : Tb} {b : List AV} {n : Nat} (h : (tbc T).length ≤ n) : (tbc T ++ b)[n]? = b[n - (tbc T).length]? := List.getElem?_append_right h
theorem ln_tb {T : Tb} {b : List AV} : (tbc T ++ b).length = (tbc T).length + b.length := List.length_append
theorem tb_nil {T : Tb} : tbc T ++ [] = tbc T := List.append_nil _
theorem tb_app {T : Tb} {a b : List AV} : (tbc T ++ a) ++ b = tbc T ++ (a ++ b) := List.append_assoc _ _ _
theorem et : type_of% (And.intro @tb_nil (And.intro @tb_app (And.intro @cl_tb (And.intro @cl_tb0 (And.intro @ac_tb (And.intro @ac_tb0 (And.intro @vws_tb (And.intro @vws_tb0 (And.intro @lss_tb (And.intro @vw_sc (And.intro @tt_hi (And.intro @dt_hi (And.intro @gt_hi' (@ln_tb)))))))))))))) :=
  And.intro @tb_nil (And.intro @tb_app (And.intro @cl_tb (And.intro @cl_tb0 (And.intro @ac_tb (And.intro @ac_tb0 (And.intro @vws_tb (And.intro @vws_tb0 (And.intro @lss_tb (And.intro @vw_sc (And.intro @tt_hi (And.intro @dt_hi (And.intro @gt_hi' (@ln_tb)))))))))))))
theorem tbc_get {T : Tb} {i : Nat} (h : i < T.length) : (tbc T)[i]? = some (scA (T.getD i (.is 0))) := by
  unfold tbc
  rw [List.getElem?_map, List.getElem?_eq_getElem h]
  simp [List.getD, h]
theorem tbc_set {T : Tb} {i : Nat} {s : Sc} (h : i < T.length) : (tbc T).take i ++ scA s :: (tbc T).drop (i + 1) = tbc (T.set i s) := by
  unfold tbc
  rw [List.map_set, List.set_eq_take_append_cons_drop, if_pos (by simpa using h)]
theorem tbc_set2 {T : Tb} {i : Nat} {s : Sc} (h : i < T.length) : (tbc T).take i ++ [scA s] ++ (tbc T).drop (i + 1) = tbc (T.set i s) := by
  rw [← tbc_set h]; simp
def newR (i : Nat) : List AV := (List.range i).map (fun l => scA (.was l)) ++ List.replicate (24 - i) (.imm .nilIface)
theorem newR_len {i : Nat} (h : i ≤ 24) : (newR i).length = 24 := by simp [newR]; omega
theorem newR_set {i : Nat} (h : i < 24) : (newR i).take i ++ scA (.was i) :: (newR i).drop (i + 1) = newR (i + 1) := by
  unfold newR
  have e : ((List.range i).map (fun l => scA (.was l))).length = i := by simp
  rw [List.take_left' e, List.drop_append, List.drop_of_length_le (by omega), List.nil_append, e]
  rw [show i + 1 - i = 1 by omega, List.drop_replicate, List.range_succ, List.map_append, List.append_assoc]
  rfl
theorem newR_set2 {i : Nat} (h : i < 24) : (newR i).take i ++ [scA (.was i)] ++ (newR i).drop (i + 1) = newR (i + 1) := by
  rw [← newR_set h]; simp
theorem newR_all : newR 24 = tbc tb0 := by unfold newR tbc tb0; rw [List.map_map]; simp
theorem newR_zero : [AV.imm .nilIface, .imm .nilIface, .imm .nilIface, .imm .nilIface, .imm .nilIface, .imm .nilIface, .imm .nilIface, .imm .nilIface, .imm .nilIface, .imm .nilIface, .imm .nilIface, .imm .nilIface, .imm .nilIface, .imm .nilIface, .imm .nilIface, .imm .nilIface, .imm .nilIface, .imm .nilIface, .imm .nilIface, .imm .nilIface, .imm .nilIface, .imm .nilIface, .imm .nilIface, .imm .nilIface] = newR 0 := rfl
theorem newR_clean (m : Nat) {i : Nat} : cleanAll m (newR i) = true := by
  unfold newR
  rw [cleanAll_iff]
  intro j a ha
  have := List.mem_of_getElem? ha
  rcases List.mem_append.1 this with h | h
  · obtain ⟨l, _, rfl⟩ := List.mem_map.1 h
    exact scA_clean m _
  · rw [(List.mem_replicate.1 h).2]; rfl
def tbA (T : Tb) : AV := .agg (tbc T)
theorem tbA_eq (T : Tb) : tbA T = .agg (tbc T) := rfl
set_option maxHeartbeats 4000000 in
theorem env_New_ok : Pure Tryd.prog 40 [] (tbA tb0) := by
  intro H
  refine ACalls.go env_New.low (by simp) fun hcl => ?_
  rw [tbA_eq, ← newR_all]
  have l0 : (newR 0).length = 24 := newR_len (by decide)
  (refine R.seq ?_; refine LCB.text ?_; repeat' (first | simp only [seval, evo, beq_self_eq_true, encB_def, encN_def, sb, et, insA, encIns, ins_dec, ins_eta, newR_zero, newR_clean, Nat.mul_one, scA_was, scA_is, tbA_eq, *] | simp (disch := omega) only [if_pos, if_neg]))
  (refine R.seq ?_; refine LCB.text ?_; repeat' (first | simp only [seval, evo, beq_self_eq_true, encB_def, encN_def, sb, et, insA, encIns, ins_dec, ins_eta, newR_zero, newR_clean, Nat.mul_one, scA_was, scA_is, tbA_eq, *] | simp (disch := omega) only [if_pos, if_neg]))
  refine R.cut [(0, .ptr H.length 1 0 0), (1, .ptr (H.length + 1) 1 0 0)] (H ++ [.vec 24 [newR 0], .vec 24 [newR 24]]) ?_ ?_
  · (refine R.seq ?_; refine LCB.text ?_; repeat' (first | simp only [seval, evo, beq_self_eq_true, encB_def, encN_def, sb, et, insA, encIns, ins_dec, ins_eta, newR_zero, newR_clean, Nat.mul_one, scA_was, scA_is, tbA_eq, *] | simp (disch := omega) only [if_pos, if_neg]))
    refine R.block (R.loop (S := Nat) ⟨fun i => [(0, .ptr H.length 1 0 0), (1, .ptr (H.length + 1) 1 0 0), (3, .int .i64 (i : Int))], fun i => H ++ [.vec 24 [newR 0], .vec 24 [newR i]], fun i => i ≤ 24, fun i => 24 - i⟩ 0 (Nat.zero_le _) (Weak.at hcl ?_) ?_)
    · simp only [seval, evw, fm, encB_def, encN_def, sb, et, insA, encIns, ins_dec, ins_eta, newR_zero, newR_clean, Nat.mul_one, scA_was, scA_is, tbA_eq, *]
    intro i hi
    simp only at hi ⊢
    by_cases hlt : i < 24
    · have e1 : (i : Int) < 24 := by omega
      have e2 : (i : Int) < ((24 : Nat) : Int) := by omega
      have e3 : IntKind.i64.wrap ((i : Int) + 1) = ((i + 1 : Nat) : Int) := by rw [IntKind.wrap_i64]; omega
      have bl := newR_len hi
      have bl2 := newR_len (i := i + 1) hlt
      have bs1 := newR_set hlt
      have bs2 := newR_set2 hlt
      rw [scA_was] at bs1 bs2
      have e4 : i + 1 ≤ 24 := hlt
      repeat' (first | simp only [seval, evx, beq_self_eq_true, encB_def, encN_def, sb, et, insA, encIns, ins_dec, ins_eta, newR_zero, newR_clean, Nat.mul_one, scA_was, scA_is, tbA_eq, *] | simp (disch := omega) only [if_pos, if_neg] | refine R.seq ?_ | refine LCB.text ?_ | refine LCB.quiet rfl ?_ | refine R.anyX ?_ | refine R.block ?_ | refine LCB.skip ?_ | refine LCB.exit ?_ | refine LCB.ret ?_ | ((first | refine RetOk.val hcl ?_ | refine Weak.at hcl ?_); simp only [seval, evw, fm, encB_def, encN_def, sb, et, insA, encIns, ins_dec, ins_eta, newR_zero, newR_clean, Nat.mul_one, scA_was, scA_is, tbA_eq, *]) | ((first | refine LCB.cond (by simp only [seval, evx] <;> rfl) ?_ ?_ | refine wpG_split (by simp only [seval, evx] <;> rfl) ?_ ?_ | refine wxG_split (by simp only [seval, evx] <;> rfl) ?_ ?_) <;> (intro hc; try simp only [seval, nf] at hc)) | refine ACalls.inst ?_ | refine CallX.inst ?_ | (with_reducible refine And.intro ?_ ?_) | exact True.intro | refine CallX.pure hn.of ?_ | refine ACalls.pure hn.of ?_ | refine ACalls.pure hm.of ?_ | refine CallX.pure hm.of ?_)
      refine ⟨i + 1, hlt, by simp only; omega, Weak.at hcl ?_⟩
      simp only [seval, evw, fm, encB_def, encN_def, sb, et, insA, encIns, ins_dec, ins_eta, newR_zero, newR_clean, Nat.mul_one, scA_was, scA_is, tbA_eq, *]
    · have hie : i = 24 := by omega
      subst hie
      have e1 : ¬ ((24 : Nat) : Int) < 24 := by omega
      repeat' (first | simp only [seval, evx, beq_self_eq_true, encB_def, encN_def, sb, et, insA, encIns, ins_dec, ins_eta, newR_zero, newR_clean, Nat.mul_one, scA_was, scA_is, tbA_eq, *] | simp (disch := omega) only [if_pos, if_neg] | refine R.seq ?_ | refine LCB.text ?_ | refine LCB.quiet rfl ?_ | refine R.anyX ?_ | refine R.block ?_ | refine LCB.skip ?_ | refine LCB.exit ?_ | refine LCB.ret ?_ | ((first | refine RetOk.val hcl ?_ | refine Weak.at hcl ?_); simp only [seval, evw, fm, encB_def, encN_def, sb, et, insA, encIns, ins_dec, ins_eta, newR_zero, newR_clean, Nat.mul_one, scA_was, scA_is, tbA_eq, *]) | ((first | refine LCB.cond (by simp only [seval, evx] <;> rfl) ?_ ?_ | refine wpG_split (by simp only [seval, evx] <;> rfl) ?_ ?_ | refine wxG_split (by simp only [seval, evx] <;> rfl) ?_ ?_) <;> (intro hc; try simp only [seval, nf] at hc)) | refine ACalls.inst ?_ | refine CallX.inst ?_ | (with_reducible refine And.intro ?_ ?_) | exact True.intro | refine CallX.pure hn.of ?_ | refine ACalls.pure hn.of ?_ | refine ACalls.pure hm.of ?_ | refine CallX.pure hm.of ?_)
  have l1 : (newR 24).length = 24 := newR_len (by decide)
  have t1 : (newR 24).take 24 = newR 24 := List.take_of_length_le (by omega)
  have d0 : (newR 0).drop 24 = [] := rfl
  have c1 : ∀ m, cleanAll m (newR 24) = true := fun m => newR_clean m
  have a1 : allCells (newR 24) = true := by rw [newR_all]; exact ac_tb0
  generalize newR 24 = N at *
  have v1 : ∀ (H : List AObj) (m : Nat), Views H m N N = True := fun H m => vws_same (c1 m)
  have n1 : N ++ [] = N := List.append_nil _
  repeat' (first | simp only [seval, evx, beq_self_eq_true, encB_def, encN_def, sb, et, insA, encIns, ins_dec, ins_eta, newR_zero, newR_clean, Nat.mul_one, scA_was, scA_is, tbA_eq, *] | simp (disch := omega) only [if_pos, if_neg] | refine R.seq ?_ | refine LCB.text ?_ | refine LCB.quiet rfl ?_ | refine R.anyX ?_ | refine R.block ?_ | refine LCB.skip ?_ | refine LCB.exit ?_ | refine LCB.ret ?_ | ((first | refine RetOk.val hcl ?_ | refine Weak.at hcl ?_); simp only [seval, evw, fm, encB_def, encN_def, sb, et, insA, encIns, ins_dec, ins_eta, newR_zero, newR_clean, Nat.mul_one, scA_was, scA_is, tbA_eq, *]) | ((first | refine LCB.cond (by simp only [seval, evx] <;> rfl) ?_ ?_ | refine wpG_split (by simp only [seval, evx] <;> rfl) ?_ ?_ | refine wxG_split (by simp only [seval, evx] <;> rfl) ?_ ?_) <;> (intro hc; try simp only [seval, nf] at hc)) | refine ACalls.inst ?_ | refine CallX.inst ?_ | (with_reducible refine And.intro ?_ ?_) | exact True.intro | refine CallX.pure hn.of ?_ | refine ACalls.pure hn.of ?_ | refine ACalls.pure hm.of ?_ | refine CallX.pure hm.of ?_)
instance pc_env_New : PureC Tryd.prog 40 [] (.agg (tbc tb0)) := ⟨env_New_ok⟩
theorem env_may_ok (s : Sc) (hs : ScOk s) : Pure Tryd.prog 66 [scA s] (.bool true) := by
  intro H
  refine ACalls.go env_may.low (by simp) fun hcl => ?_
  cases s with
  | was l =>
    have hl : l < 24 := hs
    have hr : inR 24 (l : Int) = true := by simp [inR]; omega
    repeat' (first | simp only [seval, evx, beq_self_eq_true, encB_def, encN_def, sb, et, insA, encIns, ins_dec, ins_eta, newR_zero, newR_clean, Nat.mul_one, scA_was, scA_is, tbA_eq, *] | simp (disch := omega) only [if_pos, if_neg] | refine R.seq ?_ | refine LCB.text ?_ | refine LCB.quiet rfl ?_ | refine R.anyX ?_ | refine R.block ?_ | refine LCB.skip ?_ | refine LCB.exit ?_ | refine LCB.ret ?_ | ((first | refine RetOk.val hcl ?_ | refine Weak.at hcl ?_); simp only [seval, evw, fm, encB_def, encN_def, sb, et, insA, encIns, ins_dec, ins_eta, newR_zero, newR_clean, Nat.mul_one, scA_was, scA_is, tbA_eq, *]) | ((first | refine LCB.cond (by simp only [seval, evx] <;> rfl) ?_ ?_ | refine wpG_split (by simp only [seval, evx] <;> rfl) ?_ ?_ | refine wxG_split (by simp only [seval, evx] <;> rfl) ?_ ?_) <;> (intro hc; try simp only [seval, nf] at hc)) | refine ACalls.inst ?_ | refine CallX.inst ?_ | (with_reducible refine And.intro ?_ ?_) | exact True.intro | refine CallX.pure hn.of ?_ | refine ACalls.pure hn.of ?_ | refine ACalls.pure hm.of ?_ | refine CallX.pure hm.of ?_)
  | is n => repeat' (first | simp only [seval, evx, beq_self_eq_true, encB_def, encN_def, sb, et, insA, encIns, ins_dec, ins_eta, newR_zero, newR_clean, Nat.mul_one, scA_was, scA_is, tbA_eq, *] | simp (disch := omega) only [if_pos, if_neg] | refine R.seq ?_ | refine LCB.text ?_ | refine LCB.quiet rfl ?_ | refine R.anyX ?_ | refine R.block ?_ | refine LCB.skip ?_ | refine LCB.exit ?_ | refine LCB.ret ?_ | ((first | refine RetOk.val hcl ?_ | refine Weak.at hcl ?_); simp only [seval, evw, fm, encB_def, encN_def, sb, et, insA, encIns, ins_dec, ins_eta, newR_zero, newR_clean, Nat.mul_one, scA_was, scA_is, tbA_eq, *]) | ((first | refine LCB.cond (by simp only [seval, evx] <;> rfl) ?_ ?_ | refine wpG_split (by simp only [seval, evx] <;> rfl) ?_ ?_ | refine wxG_split (by simp only [seval, evx] <;> rfl) ?_ ?_) <;> (intro hc; try simp only [seval, nf] at hc)) | refine ACalls.inst ?_ | refine CallX.inst ?_ | (with_reducible refine And.intro ?_ ?_) | exact True.intro | refine CallX.pure hn.of ?_ | refine ACalls.pure hn.of ?_ | refine ACalls.pure hm.of ?_ | refine CallX.pure hm.of ?_)
theorem env_Good_ok (T : Tb) (hT : TbOk T) : Pure Tryd.prog 63 [tbA T] (.bool true) := by
  intro H
  refine ACalls.go env_Good.low (by simp) fun hcl => ?_
  rw [tbA_eq]
  obtain ⟨hl, hok⟩ := hT
  have bl : (tbc T).length = 24 := by rw [tbc_len, hl]
  have bt : (tbc T).take 24 = tbc T := List.take_of_length_le (by omega)
  replace hok := Hold.mk hok
  (refine R.seq ?_; refine LCB.text ?_; repeat' (first | simp only [seval, evo, beq_self_eq_true, encB_def, encN_def, sb, et, insA, encIns, ins_dec, ins_eta, newR_zero, newR_clean, Nat.mul_one, scA_was, scA_is, tbA_eq, *] | simp (disch := omega) only [if_pos, if_neg]))
  refine R.seq ?_
  (refine R.seq ?_; refine LCB.text ?_; repeat' (first | simp only [seval, evo, beq_self_eq_true, encB_def, encN_def, sb, et, insA, encIns, ins_dec, ins_eta, newR_zero, newR_clean, Nat.mul_one, scA_was, scA_is, tbA_eq, *] | simp (disch := omega) only [if_pos, if_neg]))
  refine R.block (R.loop (S := Nat) ⟨fun i => [(5, .agg (tbc T)), (6, .int .i64 (i : Int))], fun i => H ++ [], fun i => i ≤ 24, fun i => 24 - i⟩ 0 (Nat.zero_le _) (Weak.at hcl ?_) ?_)
  · simp only [seval, evw, fm, encB_def, encN_def, sb, et, insA, encIns, ins_dec, ins_eta, newR_zero, newR_clean, Nat.mul_one, scA_was, scA_is, tbA_eq, *]
  intro i hi
  simp only at hi ⊢
  by_cases hlt : i < 24
  · have e1 : (i : Int) < 24 := by omega
    have e2 : (i : Int) < ((24 : Nat) : Int) := by omega
    have e3 : IntKind.i64.wrap ((i : Int) + 1) = ((i + 1 : Nat) : Int) := by rw [IntKind.wrap_i64]; omega
    have hg := tbc_get (T := T) (i := i) (by omega)
    have hn := env_may_ok _ (getD_ok hok.of i)
    generalize T.getD i (.is 0) = s at *
    generalize scA s = a at *
    replace hn := Hold.mk hn
    repeat' (first | simp only [seval, evx, beq_self_eq_true, encB_def, encN_def, sb, et, insA, encIns, ins_dec, ins_eta, newR_zero, newR_clean, Nat.mul_one, scA_was, scA_is, tbA_eq, *] | simp (disch := omega) only [if_pos, if_neg] | refine R.seq ?_ | refine LCB.text ?_ | refine LCB.quiet rfl ?_ | refine R.anyX ?_ | refine R.block ?_ | refine LCB.skip ?_ | refine LCB.exit ?_ | refine LCB.ret ?_ | ((first | refine RetOk.val hcl ?_ | refine Weak.at hcl ?_); simp only [seval, evw, fm, encB_def, encN_def, sb, et, insA, encIns, ins_dec, ins_eta, newR_zero, newR_clean, Nat.mul_one, scA_was, scA_is, tbA_eq, *]) | ((first | refine LCB.cond (by simp only [seval, evx] <;> rfl) ?_ ?_ | refine wpG_split (by simp only [seval, evx] <;> rfl) ?_ ?_ | refine wxG_split (by simp only [seval, evx] <;> rfl) ?_ ?_) <;> (intro hc; try simp only [seval, nf] at hc)) | refine ACalls.inst ?_ | refine CallX.inst ?_ | (with_reducible refine And.intro ?_ ?_) | exact True.intro | refine CallX.pure hn.of ?_ | refine ACalls.pure hn.of ?_ | refine ACalls.pure hm.of ?_ | refine CallX.pure hm.of ?_)
    refine ⟨i + 1, hlt, by simp only; omega, Weak.at hcl ?_⟩
    simp only [seval, evw, fm, encB_def, encN_def, sb, et, insA, encIns, ins_dec, ins_eta, newR_zero, newR_clean, Nat.mul_one, scA_was, scA_is, tbA_eq, *]
  · have hie : i = 24 := by omega
    subst hie
    have e1 : ¬ ((24 : Nat) : Int) < 24 := by omega
    repeat' (first | simp only [seval, evx, beq_self_eq_true, encB_def, encN_def, sb, et, insA, encIns, ins_dec, ins_eta, newR_zero, newR_clean, Nat.mul_one, scA_was, scA_is, tbA_eq, *] | simp (disch := omega) only [if_pos, if_neg] | refine R.seq ?_ | refine LCB.text ?_ | refine LCB.quiet rfl ?_ | refine R.anyX ?_ | refine R.block ?_ | refine LCB.skip ?_ | refine LCB.exit ?_ | refine LCB.ret ?_ | ((first | refine RetOk.val hcl ?_ | refine Weak.at hcl ?_); simp only [seval, evw, fm, encB_def, encN_def, sb, et, insA, encIns, ins_dec, ins_eta, newR_zero, newR_clean, Nat.mul_one, scA_was, scA_is, tbA_eq, *]) | ((first | refine LCB.cond (by simp only [seval, evx] <;> rfl) ?_ ?_ | refine wpG_split (by simp only [seval, evx] <;> rfl) ?_ ?_ | refine wxG_split (by simp only [seval, evx] <;> rfl) ?_ ?_) <;> (intro hc; try simp only [seval, nf] at hc)) | refine ACalls.inst ?_ | refine CallX.inst ?_ | (with_reducible refine And.intro ?_ ?_) | exact True.intro | refine CallX.pure hn.of ?_ | refine ACalls.pure hn.of ?_ | refine ACalls.pure hm.of ?_ | refine CallX.pure hm.of ?_)
theorem env_good_ok (T : Tb) (hT : TbOk T) : Pure Tryd.prog 55 [tbA T] (tbA T) := by
  intro H
  refine ACalls.go env_good.low (by simp) fun hcl => ?_
  have hn := env_Good_ok T hT
  rw [tbA_eq] at *
  obtain ⟨hl, hok⟩ := hT
  have bl : (tbc T).length = 24 := by rw [tbc_len, hl]
  have bt : (tbc T).take 24 = tbc T := List.take_of_length_le (by omega)
  have l0 : (newR 0).length = 24 := newR_len (by decide)
  have d0 : (newR 0).drop 24 = [] := rfl
  replace hok := Hold.mk hok
  replace hn := Hold.mk hn
  repeat' (first | simp only [seval, evx, beq_self_eq_true, encB_def, encN_def, sb, et, insA, encIns, ins_dec, ins_eta, newR_zero, newR_clean, Nat.mul_one, scA_was, scA_is, tbA_eq, *] | simp (disch := omega) only [if_pos, if_neg] | refine R.seq ?_ | refine LCB.text ?_ | refine LCB.quiet rfl ?_ | refine R.anyX ?_ | refine R.block ?_ | refine LCB.skip ?_ | refine LCB.exit ?_ | refine LCB.ret ?_ | ((first | refine RetOk.val hcl ?_ | refine Weak.at hcl ?_); simp only [seval, evw, fm, encB_def, encN_def, sb, et, insA, encIns, ins_dec, ins_eta, newR_zero, newR_clean, Nat.mul_one, scA_was, scA_is, tbA_eq, *]) | ((first | refine LCB.cond (by simp only [seval, evx] <;> rfl) ?_ ?_ | refine wpG_split (by simp only [seval, evx] <;> rfl) ?_ ?_ | refine wxG_split (by simp only [seval, evx] <;> rfl) ?_ ?_) <;> (intro hc; try simp only [seval, nf] at hc)) | refine ACalls.inst ?_ | refine CallX.inst ?_ | (with_reducible refine And.intro ?_ ?_) | exact True.intro | refine CallX.pure hn.of ?_ | refine ACalls.pure hn.of ?_ | refine ACalls.pure hm.of ?_ | refine CallX.pure hm.of ?_)
set_option maxHeartbeats 16000000 in
theorem env_After_ok (T : Tb) (x : Ins) (hT : TbOk T) (hm : movesB x.op = true) (hd : inR 24 x.d = true) (ha : inR 24 x.a = true) : Pure Tryd.prog 42 [tbA T, insA x] (tbA (afterT T x)) := by
  intro H
  refine ACalls.go env_After.low (by simp) fun hcl => ?_
  have hn := env_good_ok T hT
  rw [tbA_eq] at hn
  rw [insA_eq, tbA_eq, tbA_eq]
  obtain ⟨hl, hok⟩ := hT
  have bl : (tbc T).length = 24 := by rw [tbc_len, hl]
  have bt : (tbc T).take 24 = tbc T := List.take_of_length_le (by omega)
  have l0 : (newR 0).length = 24 := newR_len (by decide)
  have d0 : (newR 0).drop 24 = [] := rfl
  have dt : (tbc T).drop 24 = [] := List.drop_of_length_le (by omega)
  have hd2 := hd
  have ha2 := ha
  unfold inR at hd2 ha2
  simp only [decide_eq_true_eq] at hd2 ha2
  obtain ⟨op, d, a, b, n, to⟩ := x
  simp only at hm hd ha hd2 ha2 ⊢
  obtain ⟨D, rfl⟩ := Int.eq_ofNat_of_zero_le hd2.1
  obtain ⟨A, rfl⟩ := Int.eq_ofNat_of_zero_le ha2.1
  have hD : D < 24 := by omega
  have hA : A < 24 := by omega
  have f1 : (D : Int) < ((24 : Nat) : Int) := by omega
  have f2 : (A : Int) < ((24 : Nat) : Int) := by omega
  have f3 : D + 1 ≤ 24 := hD
  have f4 : A + 1 ≤ 24 := hA
  have hgA := tbc_get (T := T) (i := A) (by omega)
  have hgD := tbc_get (T := T) (i := D) (by omega)
  replace hn := Hold.mk hn
  clear hd2 ha2 hok
  have ho : op = 1 ∨ op = 2 ∨ op = 3 ∨ op = 16 := by simpa [movesB] using hm
  rcases ho with rfl | rfl | rfl | rfl
  · have e : afterT T ⟨1, D, A, b, n, to⟩ = T.set D (.is n) := by unfold afterT; rw [if_pos rfl]; rfl
    have s1 := tbc_set (T := T) (i := D) (s := .is n) (by omega)
    have s2 := tbc_set2 (T := T) (i := D) (s := .is n) (by omega)
    rw [scA_is] at s1 s2
    rw [e]
    have bl2 : (tbc (T.set D (.is n))).length = 24 := by rw [tbc_len, List.length_set, hl]
    have bt2 : (tbc (T.set D (.is n))).take 24 = tbc (T.set D (.is n)) := List.take_of_length_le (by omega)
    repeat' (first | simp only [seval, evx, beq_self_eq_true, encB_def, encN_def, sb, et, insA, encIns, ins_dec, ins_eta, newR_zero, newR_clean, Nat.mul_one, scA_was, scA_is, tbA_eq, *] | simp (disch := omega) only [if_pos, if_neg] | refine R.seq ?_ | refine LCB.text ?_ | refine LCB.quiet rfl ?_ | refine R.anyX ?_ | refine R.block ?_ | refine LCB.skip ?_ | refine LCB.exit ?_ | refine LCB.ret ?_ | ((first | refine RetOk.val hcl ?_ | refine Weak.at hcl ?_); simp only [seval, evw, fm, encB_def, encN_def, sb, et, insA, encIns, ins_dec, ins_eta, newR_zero, newR_clean, Nat.mul_one, scA_was, scA_is, tbA_eq, *]) | ((first | refine LCB.cond (by simp only [seval, evx] <;> rfl) ?_ ?_ | refine wpG_split (by simp only [seval, evx] <;> rfl) ?_ ?_ | refine wxG_split (by simp only [seval, evx] <;> rfl) ?_ ?_) <;> (intro hc; try simp only [seval, nf] at hc)) | refine ACalls.inst ?_ | refine CallX.inst ?_ | (with_reducible refine And.intro ?_ ?_) | exact True.intro | refine CallX.pure hn.of ?_ | refine ACalls.pure hn.of ?_ | refine ACalls.pure hm.of ?_ | refine CallX.pure hm.of ?_)
  · have e : afterT T ⟨2, D, A, b, n, to⟩ = T.set D (T.getD A (.is 0)) := by unfold afterT; rw [if_neg (by simp), if_pos rfl]; rfl
    have s1 := tbc_set (T := T) (i := D) (s := T.getD A (.is 0)) (by omega)
    have s2 := tbc_set2 (T := T) (i := D) (s := T.getD A (.is 0)) (by omega)
    rw [e]
    have bl2 : (tbc (T.set D (T.getD A (.is 0)))).length = 24 := by rw [tbc_len, List.length_set, hl]
    have bt2 : (tbc (T.set D (T.getD A (.is 0)))).take 24 = tbc (T.set D (T.getD A (.is 0))) := List.take_of_length_le (by omega)
    have cA := scA_cell (T.getD A (.is 0))
    have kA : ∀ m, (scA (T.getD A (.is 0))).clean m = true := fun m => scA_clean m _
    have oA : cellsOf (scA (T.getD A (.is 0))) = some [scA (T.getD A (.is 0))] := by cases T.getD A (.is 0) <;> rfl
    generalize scA (T.getD A (.is 0)) = vA at *
    repeat' (first | simp only [seval, evx, beq_self_eq_true, encB_def, encN_def, sb, et, insA, encIns, ins_dec, ins_eta, newR_zero, newR_clean, Nat.mul_one, scA_was, scA_is, tbA_eq, *] | simp (disch := omega) only [if_pos, if_neg] | refine R.seq ?_ | refine LCB.text ?_ | refine LCB.quiet rfl ?_ | refine R.anyX ?_ | refine R.block ?_ | refine LCB.skip ?_ | refine LCB.exit ?_ | refine LCB.ret ?_ | ((first | refine RetOk.val hcl ?_ | refine Weak.at hcl ?_); simp only [seval, evw, fm, encB_def, encN_def, sb, et, insA, encIns, ins_dec, ins_eta, newR_zero, newR_clean, Nat.mul_one, scA_was, scA_is, tbA_eq, *]) | ((first | refine LCB.cond (by simp only [seval, evx] <;> rfl) ?_ ?_ | refine wpG_split (by simp only [seval, evx] <;> rfl) ?_ ?_ | refine wxG_split (by simp only [seval, evx] <;> rfl) ?_ ?_) <;> (intro hc; try simp only [seval, nf] at hc)) | refine ACalls.inst ?_ | refine CallX.inst ?_ | (with_reducible refine And.intro ?_ ?_) | exact True.intro | refine CallX.pure hn.of ?_ | refine ACalls.pure hn.of ?_ | refine ACalls.pure hm.of ?_ | refine CallX.pure hm.of ?_)
  · have e : afterT T ⟨3, D, A, b, n, to⟩ = (T.set D (T.getD A (.is 0))).set A (T.getD D (.is 0)) := by unfold afterT; rw [if_neg (by simp), if_neg (by simp), if_pos rfl]; rfl
    have s1 := tbc_set (T := T) (i := D) (s := T.getD A (.is 0)) (by omega)
    have s2 := tbc_set2 (T := T) (i := D) (s := T.getD A (.is 0)) (by omega)
    have s3 := tbc_set (T := T.set D (T.getD A (.is 0))) (i := A) (s := T.getD D (.is 0)) (by rw [List.length_set]; omega)
    have s4 := tbc_set2 (T := T.set D (T.getD A (.is 0))) (i := A) (s := T.getD D (.is 0)) (by rw [List.length_set]; omega)
    rw [e]
    have bl1 : (tbc (T.set D (T.getD A (.is 0)))).length = 24 := by rw [tbc_len, List.length_set, hl]
    have bl2 : (tbc ((T.set D (T.getD A (.is 0))).set A (T.getD D (.is 0)))).length = 24 := by rw [tbc_len, List.length_set, List.length_set, hl]
    have bt2 : (tbc ((T.set D (T.getD A (.is 0))).set A (T.getD D (.is 0)))).take 24 = tbc ((T.set D (T.getD A (.is 0))).set A (T.getD D (.is 0))) := List.take_of_length_le (by omega)
    have oA : cellsOf (scA (T.getD A (.is 0))) = some [scA (T.getD A (.is 0))] := by cases T.getD A (.is 0) <;> rfl
    have oD : cellsOf (scA (T.getD D (.is 0))) = some [scA (T.getD D (.is 0))] := by cases T.getD D (.is 0) <;> rfl
    have cA := scA_cell (T.getD A (.is 0))
    have cD := scA_cell (T.getD D (.is 0))
    have kA : ∀ m, (scA (T.getD A (.is 0))).clean m = true := fun m => scA_clean m _
    have kD : ∀ m, (scA (T.getD D (.is 0))).clean m = true := fun m => scA_clean m _
    generalize scA (T.getD A (.is 0)) = vA at *
    generalize scA (T.getD D (.is 0)) = vD at *
    have a2 : allCells (tbc ((T.set D (T.getD A (.is 0))).set A (T.getD D (.is 0)))) = true := ac_tb0
    have c2 : ∀ m, cleanAll m (tbc ((T.set D (T.getD A (.is 0))).set A (T.getD D (.is 0)))) = true := fun m => tbc_clean m _
    have n2 : tbc ((T.set D (T.getD A (.is 0))).set A (T.getD D (.is 0))) ++ [] = tbc ((T.set D (T.getD A (.is 0))).set A (T.getD D (.is 0))) := List.append_nil _
    generalize tbc ((T.set D (T.getD A (.is 0))).set A (T.getD D (.is 0))) = T2 at *
    have v2 : ∀ (H : List AObj) (m : Nat), Views H m T2 T2 = True := fun H m => vws_same (c2 m)
    generalize tbc (T.set D (T.getD A (.is 0))) = T1 at *
    repeat' (first | simp only [seval, evx, beq_self_eq_true, encB_def, encN_def, sb, et, insA, encIns, ins_dec, ins_eta, newR_zero, newR_clean, Nat.mul_one, scA_was, scA_is, tbA_eq, *] | simp (disch := omega) only [if_pos, if_neg] | refine R.seq ?_ | refine LCB.text ?_ | refine LCB.quiet rfl ?_ | refine R.anyX ?_ | refine R.block ?_ | refine LCB.skip ?_ | refine LCB.exit ?_ | refine LCB.ret ?_ | ((first | refine RetOk.val hcl ?_ | refine Weak.at hcl ?_); simp only [seval, evw, fm, encB_def, encN_def, sb, et, insA, encIns, ins_dec, ins_eta, newR_zero, newR_clean, Nat.mul_one, scA_was, scA_is, tbA_eq, *]) | ((first | refine LCB.cond (by simp only [seval, evx] <;> rfl) ?_ ?_ | refine wpG_split (by simp only [seval, evx] <;> rfl) ?_ ?_ | refine wxG_split (by simp only [seval, evx] <;> rfl) ?_ ?_) <;> (intro hc; try simp only [seval, nf] at hc)) | refine ACalls.inst ?_ | refine CallX.inst ?_ | (with_reducible refine And.intro ?_ ?_) | exact True.intro | refine CallX.pure hn.of ?_ | refine ACalls.pure hn.of ?_ | refine ACalls.pure hm.of ?_ | refine CallX.pure hm.of ?_)
  · have e : afterT T ⟨16, D, A, b, n, to⟩ = T := by unfold afterT; rw [if_neg (by simp), if_neg (by simp), if_neg (by simp)]
    rw [e]
    repeat' (first | simp only [seval, evx, beq_self_eq_true, encB_def, encN_def, sb, et, insA, encIns, ins_dec, ins_eta, newR_zero, newR_clean, Nat.mul_one, scA_was, scA_is, tbA_eq, *] | simp (disch := omega) only [if_pos, if_neg] | refine R.seq ?_ | refine LCB.text ?_ | refine LCB.quiet rfl ?_ | refine R.anyX ?_ | refine R.block ?_ | refine LCB.skip ?_ | refine LCB.exit ?_ | refine LCB.ret ?_ | ((first | refine RetOk.val hcl ?_ | refine Weak.at hcl ?_); simp only [seval, evw, fm, encB_def, encN_def, sb, et, insA, encIns, ins_dec, ins_eta, newR_zero, newR_clean, Nat.mul_one, scA_was, scA_is, tbA_eq, *]) | ((first | refine LCB.cond (by simp only [seval, evx] <;> rfl) ?_ ?_ | refine wpG_split (by simp only [seval, evx] <;> rfl) ?_ ?_ | refine wxG_split (by simp only [seval, evx] <;> rfl) ?_ ?_) <;> (intro hc; try simp only [seval, nf] at hc)) | refine ACalls.inst ?_ | refine CallX.inst ?_ | (with_reducible refine And.intro ?_ ?_) | exact True.intro | refine CallX.pure hn.of ?_ | refine ACalls.pure hn.of ?_ | refine ACalls.pure hm.of ?_ | refine CallX.pure hm.of ?_)
end Go.Proofs.YtphmakopjfbmnaaDoor
namespace Go.Proofs.YtphmakopjfbmnaaDoor
open Go.RowKit
set_option linter.unusedVariables false
set_option linter.unusedSimpArgs false
theorem RetOk.finB {B : Nat} {t : Tm} {H L : List AObj} {rs : List LRes} {QF : AV → List AObj → Prop} (L' : List AObj) (r : AV) (hB : B ≤ H.length + L'.length) (hcl : Clean H.length H) (h : L.take L'.length = L' ∧ Clean (H.length + L'.length) L') (hv : match resE ⟨t, H ++ L⟩ rs with | some l => View (H ++ L) (H.length + L'.length) (resV l) r | none => False) (hq : QF r (H ++ L')) : RetOk B rs QF ⟨t, H ++ L⟩ := by
  split at hv
  · rename_i l hl
    refine ⟨l, H.length + L'.length, r, hl, hB, ?_, hv, ?_⟩
    · show Clean _ ((H ++ L).take _); rw [hp_take, h.1]; exact (hcl.le (by omega)).app h.2
    · show QF r ((H ++ L).take _); rw [hp_take, h.1]; exact hq
  · exact hv.elim
def pathH (f : List Ins) (M : List Bool) (p : Nat) (T : Tb) (n : Nat) (z : List AV) : List AObj :=
  [.vec 1 [[.list (f.map encIns)]], .vec 26 [z], .vec 200 [bc M], .vec 26 [.int .i64 (p : Int) :: (tbc T ++ [.int .i64 (n : Int)])]]
theorem pathH_eq {f : List Ins} {M : List Bool} {p : Nat} {T : Tb} {n : Nat} {z : List AV} : pathH f M p T n z = [.vec 1 [[.list (f.map encIns)]], .vec 26 [z], .vec 200 [bc M], .vec 26 [.int .i64 (p : Int) :: (tbc T ++ [.int .i64 (n : Int)])]] := rfl
set_option maxRecDepth 20000 in
set_option maxHeartbeats 16000000 in
theorem path_follow_ok {G : List AObj} (hG : Clean G.length G) (f : List Ins) (M : List Bool) (p : Nat) (T : Tb) (n : Nat) (z : List AV) (hz : ∀ m, cleanAll m z = true) (hzl : z.length = 26) (hf : fnOk f = true) (hp : p < f.length) (hM : M.length = 200) (hT : TbOk T) (hn : n ≤ 1000) :
    ACalls Tryd.prog 41 [.ptr G.length 1 0 0, .ptr (G.length + 3) 1 0 0, .ptr (G.length + 2) 1 0 0] (G ++ pathH f M p T n z) fun r H' =>
      (movesAt f p = true ∧ M.getD p false = false ∧ r = .bool true ∧ H' = G ++ pathH f (M.set p true) (nextPc f p) (afterT T (f.getD p noIns)) (n + 1) z) ∨
      ((movesAt f p = false ∨ M.getD p false = true) ∧ r = .bool false ∧ H' = G ++ pathH f M p T n z) := by
  refine ACalls.go path_From_1.low (by simp) fun hcl => ?_
  obtain ⟨k1, k2, k3, k4⟩ := fnOk_iff.1 hf
  have hx := k3 _ (show f.getD p noIns ∈ f by simp [List.getD, hp])
  have hnl := next_lt hf hp
  have hg := getD_encIns hp
  have hto : (f.getD p noIns).op = 16 → 0 ≤ (f.getD p noIns).to := fun h => (chk_jmp hx (.inl h)).1
  have hnp : nextPc f p = if (f.getD p noIns).op = 16 then (f.getD p noIns).to.toNat else p + 1 := rfl
  have hmv : movesAt f p = movesB (f.getD p noIns).op := rfl
  have hTl := hT.1
  have hbl : (bc M).length = 200 := by rw [bc_len, hM]
  have htl : (tbc T).length = 24 := by rw [tbc_len, hTl]
  have e1 : (p : Int) < (f.length : Int) := by omega
  have e2 : (p : Int) < ((200 : Nat) : Int) := by omega
  have e3 : p + 1 ≤ 200 := by omega
  have hgm := bc_get (B := M) (i := p) (by omega)
  have hs1 := bc_set (B := M) (i := p) (b := true) (by omega)
  have hs2 := bc_set2 (B := M) (i := p) (b := true) (by omega)
  have hbl2 : (bc (M.set p true)).length = 200 := by rw [bc_len, List.length_set, hM]
  have w1 : IntKind.i64.wrap ((p : Int) + 1) = ((p + 1 : Nat) : Int) := by rw [IntKind.wrap_i64]; omega
  have w2 : IntKind.i64.wrap ((n : Int) + 1) = ((n + 1 : Nat) : Int) := by rw [IntKind.wrap_i64]; omega
  have hpl : movesB (f.getD p noIns).op = true → inR 24 (f.getD p noIns).d = true ∧ inR 24 (f.getD p noIns).a = true := fun h => moves_in hx h
  have hafl := afterT_len T (f.getD p noIns)
  have haft : movesB (f.getD p noIns).op = true → Pure Tryd.prog 42 [tbA T, insA (f.getD p noIns)] (tbA (afterT T (f.getD p noIns))) := fun h => env_After_ok T _ hT h (hpl h).1 (hpl h).2
  generalize f.getD p noIns = x at *
  have htl2 : (tbc (afterT T x)).length = 24 := by rw [tbc_len, hafl, hTl]
  rw [insA_eq] at haft
  generalize hbm : M.getD p false = bm at *
  clear k1 k2 k3 k4 hx hf hp hM hn hafl hTl hT hpl hbm
  rw [hmv]
  clear hmv
  have hB : (G ++ pathH f M p T n z).length = G.length + 4 := by simp [pathH]
  cases hb : movesB x.op
  · replace hto := Hold.mk hto
    replace hnp := Hold.mk hnp
    replace haft := Hold.mk haft
    replace hnl := Hold.mk hnl
    replace hB := Hold.mk hB
    repeat' (first | simp only [seval, evx, beq_self_eq_true, encB_def, encN_def, sb, et, eb, insA, encIns, ins_dec, ins_eta, pathH_eq, Nat.mul_one, tbA_eq, *] | simp (disch := omega) only [if_pos, if_neg] | refine R.seq ?_ | refine LCB.text ?_ | refine LCB.quiet rfl ?_ | refine R.anyX ?_ | refine R.block ?_ | refine LCB.skip ?_ | refine LCB.exit ?_ | refine LCB.ret ?_ | ((first | refine RetOk.val hcl ?_ | refine Weak.at hcl ?_); simp only [seval, evw, fm, encB_def, encN_def, sb, et, eb, insA, encIns, ins_dec, ins_eta, pathH_eq, Nat.mul_one, tbA_eq, *]) | ((first | refine LCB.cond (by simp only [seval, evx] <;> rfl) ?_ ?_ | refine wpG_split (by simp only [seval, evx] <;> rfl) ?_ ?_ | refine wxG_split (by simp only [seval, evx] <;> rfl) ?_ ?_) <;> (intro hc; try simp only [seval, nf] at hc)) | refine ACalls.inst ?_ | refine CallX.inst ?_ | (with_reducible refine And.intro ?_ ?_) | exact True.intro | refine CallX.pure hn.of ?_ | refine ACalls.pure hn.of ?_ | refine ACalls.pure ha.of ?_)
    refine RetOk.finB (pathH f M p T n z) (.bool false) ?_ hG ⟨?_, ?_⟩ ?_ ?_
    · simp [pathH]
    · simp only [seval, evw, fm, encB_def, encN_def, sb, et, eb, insA, encIns, ins_dec, ins_eta, pathH_eq, Nat.mul_one, tbA_eq, *]
    · simp only [seval, evw, fm, encB_def, encN_def, sb, et, eb, insA, encIns, ins_dec, ins_eta, pathH_eq, Nat.mul_one, tbA_eq, *]
    · simp only [seval, evw, fm, encB_def, encN_def, sb, et, eb, insA, encIns, ins_dec, ins_eta, pathH_eq, Nat.mul_one, tbA_eq, *]
    · first | exact ⟨rfl, rfl⟩ | simp [pathH]
  have ha := haft hb
  clear haft
  cases bm
  · by_cases h16 : x.op = 16
    · obtain ⟨q, hq⟩ := Int.eq_ofNat_of_zero_le (hto h16)
      have hnq : nextPc f p = q := by rw [hnp, if_pos h16, hq]; rfl
      rw [hnq] at hnl ⊢
      rw [tbA_eq, tbA_eq] at ha
      rw [h16] at hb
      rw [h16, hq] at ha
      clear hto hnp hnl hnq
      replace ha := Hold.mk ha
      replace hB := Hold.mk hB
      repeat' (first | simp only [seval, evx, beq_self_eq_true, encB_def, encN_def, sb, et, eb, insA, encIns, ins_dec, ins_eta, pathH_eq, Nat.mul_one, tbA_eq, *] | simp (disch := omega) only [if_pos, if_neg] | refine R.seq ?_ | refine LCB.text ?_ | refine LCB.quiet rfl ?_ | refine R.anyX ?_ | refine R.block ?_ | refine LCB.skip ?_ | refine LCB.exit ?_ | refine LCB.ret ?_ | ((first | refine RetOk.val hcl ?_ | refine Weak.at hcl ?_); simp only [seval, evw, fm, encB_def, encN_def, sb, et, eb, insA, encIns, ins_dec, ins_eta, pathH_eq, Nat.mul_one, tbA_eq, *]) | ((first | refine LCB.cond (by simp only [seval, evx] <;> rfl) ?_ ?_ | refine wpG_split (by simp only [seval, evx] <;> rfl) ?_ ?_ | refine wxG_split (by simp only [seval, evx] <;> rfl) ?_ ?_) <;> (intro hc; try simp only [seval, nf] at hc)) | refine ACalls.inst ?_ | refine CallX.inst ?_ | (with_reducible refine And.intro ?_ ?_) | exact True.intro | refine CallX.pure hn.of ?_ | refine ACalls.pure hn.of ?_ | refine ACalls.pure ha.of ?_)
      refine RetOk.finB (pathH f (M.set p true) q (afterT T x) (n + 1) z) (.bool true) ?_ hG ⟨?_, ?_⟩ ?_ ?_
      · simp [pathH]
      · simp only [seval, evw, fm, encB_def, encN_def, sb, et, eb, insA, encIns, ins_dec, ins_eta, pathH_eq, Nat.mul_one, tbA_eq, *]
      · simp only [seval, evw, fm, encB_def, encN_def, sb, et, eb, insA, encIns, ins_dec, ins_eta, pathH_eq, Nat.mul_one, tbA_eq, *]
      · simp only [seval, evw, fm, encB_def, encN_def, sb, et, eb, insA, encIns, ins_dec, ins_eta, pathH_eq, Nat.mul_one, tbA_eq, *]
      · first | exact ⟨rfl, rfl⟩ | simp [pathH]
    · have hnq : nextPc f p = p + 1 := by rw [hnp, if_neg h16]
      rw [hnq] at hnl ⊢
      rw [tbA_eq, tbA_eq] at ha
      clear hto hnp hnl hnq
      replace ha := Hold.mk ha
      replace hB := Hold.mk hB
      repeat' (first | simp only [seval, evx, beq_self_eq_true, encB_def, encN_def, sb, et, eb, insA, encIns, ins_dec, ins_eta, pathH_eq, Nat.mul_one, tbA_eq, *] | simp (disch := omega) only [if_pos, if_neg] | refine R.seq ?_ | refine LCB.text ?_ | refine LCB.quiet rfl ?_ | refine R.anyX ?_ | refine R.block ?_ | refine LCB.skip ?_ | refine LCB.exit ?_ | refine LCB.ret ?_ | ((first | refine RetOk.val hcl ?_ | refine Weak.at hcl ?_); simp only [seval, evw, fm, encB_def, encN_def, sb, et, eb, insA, encIns, ins_dec, ins_eta, pathH_eq, Nat.mul_one, tbA_eq, *]) | ((first | refine LCB.cond (by simp only [seval, evx] <;> rfl) ?_ ?_ | refine wpG_split (by simp only [seval, evx] <;> rfl) ?_ ?_ | refine wxG_split (by simp only [seval, evx] <;> rfl) ?_ ?_) <;> (intro hc; try simp only [seval, nf] at hc)) | refine ACalls.inst ?_ | refine CallX.inst ?_ | (with_reducible refine And.intro ?_ ?_) | exact True.intro | refine CallX.pure hn.of ?_ | refine ACalls.pure hn.of ?_ | refine ACalls.pure ha.of ?_)
      refine RetOk.finB (pathH f (M.set p true) (p + 1) (afterT T x) (n + 1) z) (.bool true) ?_ hG ⟨?_, ?_⟩ ?_ ?_
      · simp [pathH]
      · simp only [seval, evw, fm, encB_def, encN_def, sb, et, eb, insA, encIns, ins_dec, ins_eta, pathH_eq, Nat.mul_one, tbA_eq, *]
      · simp only [seval, evw, fm, encB_def, encN_def, sb, et, eb, insA, encIns, ins_dec, ins_eta, pathH_eq, Nat.mul_one, tbA_eq, *]
      · simp only [seval, evw, fm, encB_def, encN_def, sb, et, eb, insA, encIns, ins_dec, ins_eta, pathH_eq, Nat.mul_one, tbA_eq, *]
      · first | exact ⟨rfl, rfl⟩ | simp [pathH]
  · replace hto := Hold.mk hto
    replace hnp := Hold.mk hnp
    replace ha := Hold.mk ha
    replace hnl := Hold.mk hnl
    replace hB := Hold.mk hB
    repeat' (first | simp only [seval, evx, beq_self_eq_true, encB_def, encN_def, sb, et, eb, insA, encIns, ins_dec, ins_eta, pathH_eq, Nat.mul_one, tbA_eq, *] | simp (disch := omega) only [if_pos, if_neg] | refine R.seq ?_ | refine LCB.text ?_ | refine LCB.quiet rfl ?_ | refine R.anyX ?_ | refine R.block ?_ | refine LCB.skip ?_ | refine LCB.exit ?_ | refine LCB.ret ?_ | ((first | refine RetOk.val hcl ?_ | refine Weak.at hcl ?_); simp only [seval, evw, fm, encB_def, encN_def, sb, et, eb, insA, encIns, ins_dec, ins_eta, pathH_eq, Nat.mul_one, tbA_eq, *]) | ((first | refine LCB.cond (by simp only [seval, evx] <;> rfl) ?_ ?_ | refine wpG_split (by simp only [seval, evx] <;> rfl) ?_ ?_ | refine wxG_split (by simp only [seval, evx] <;> rfl) ?_ ?_) <;> (intro hc; try simp only [seval, nf] at hc)) | refine ACalls.inst ?_ | refine CallX.inst ?_ | (with_reducible refine And.intro ?_ ?_) | exact True.intro | refine CallX.pure hn.of ?_ | refine ACalls.pure hn.of ?_ | refine ACalls.pure ha.of ?_)
    refine RetOk.finB (pathH f M p T n z) (.bool false) ?_ hG ⟨?_, ?_⟩ ?_ ?_
    · simp [pathH]
    · simp only [seval, evw, fm, encB_def, encN_def, sb, et, eb, insA, encIns, ins_dec, ins_eta, pathH_eq, Nat.mul_one, tbA_eq, *]
    · simp only [seval, evw, fm, encB_def, encN_def, sb, et, eb, insA, encIns, ins_dec, ins_eta, pathH_eq, Nat.mul_one, tbA_eq, *]
    · simp only [seval, evw, fm, encB_def, encN_def, sb, et, eb, insA, encIns, ins_dec, ins_eta, pathH_eq, Nat.mul_one, tbA_eq, *]
    · first | exact ⟨rfl, rfl⟩ | simp [pathH]
def M0 : List Bool := List.replicate 200 false
theorem M0_len : M0.length = 200 := by unfold M0; exact List.length_replicate
theorem M0_get (j : Nat) : M0.getD j false = false := by
  unfold M0
  rw [List.getD_eq_getElem?_getD, List.getElem?_replicate]
  split <;> rfl
set_option maxRecDepth 20000 in
theorem M0_eq : [AV.bool false, .bool false, .bool false, .bool false, .bool false, .bool false, .bool false, .bool false, .bool false, .bool false, .bool false, .bool false, .bool false, .bool false, .bool false, .bool false, .bool false, .bool false, .bool false, .bool false, .bool false, .bool false, .bool false, .bool false, .bool false, .bool false, .bool false, .bool false, .bool false, .bool false, .bool false, .bool false, .bool false, .bool false, .bool false, .bool false, .bool false, .bool false, .bool false, .bool false, .bool false, .bool false, .bool false, .bool false, .bool false, .bool false, .bool false, .bool false, .bool false, .bool false, .bool false, .bool false, .bool false, .bool false, .bool false, .bool false, .bool false, .bool false, .bool false, .bool false, .bool false, .bool false, .bool false, .bool false, .bool false, .bool false, .bool false, .bool false, .bool false, .bool false, .bool false, .bool false, .bool false, .bool false, .bool false, .bool false, .bool false, .bool false, .bool false, .bool false, .bool false, .bool false, .bool false, .bool false, .bool false, .bool false, .bool false, .bool false, .bool false, .bool false, .bool false, .bool false, .bool false, .bool false, .bool false, .bool false, .bool false, .bool false, .bool false, .bool false, .bool false, .bool false, .bool false, .bool false, .bool false, .bool false, .bool false, .bool false, .bool false, .bool false, .bool false, .bool false, .bool false, .bool false, .bool false, .bool false, .bool false, .bool false, .bool false, .bool false, .bool false, .bool false, .bool false, .bool false, .bool false, .bool false, .bool false, .bool false, .bool false, .bool false, .bool false, .bool false, .bool false, .bool false, .bool false, .bool false, .bool false, .bool false, .bool false, .bool false, .bool false, .bool false, .bool false, .bool false, .bool false, .bool false, .bool false, .bool false, .bool false, .bool false, .bool false, .bool false, .bool false, .bool false, .bool false, .bool false, .bool false, .bool false, .bool false, .bool false, .bool false, .bool false, .bool false, .bool false, .bool false, .bool false, .bool false, .bool false, .bool false, .bool false, .bool false, .bool false, .bool false, .bool false, .bool false, .bool false, .bool false, .bool false, .bool false, .bool false, .bool false, .bool false, .bool false, .bool false, .bool false, .bool false, .bool false, .bool false, .bool false, .bool false, .bool false, .bool false, .bool false, .bool false, .bool false, .bool false, .bool false, .bool false, .bool false, .bool false] = bc M0 := rfl
def z26 : List AV := [AV.int .i64 0, .imm .nilIface, .imm .nilIface, .imm .nilIface, .imm .nilIface, .imm .nilIface, .imm .nilIface, .imm .nilIface, .imm .nilIface, .imm .nilIface, .imm .nilIface, .imm .nilIface, .imm .nilIface, .imm .nilIface, .imm .nilIface, .imm .nilIface, .imm .nilIface, .imm .nilIface, .imm .nilIface, .imm .nilIface, .imm .nilIface, .imm .nilIface, .imm .nilIface, .imm .nilIface, .imm .nilIface, .int .i64 0]
def pathA (f : List Ins) (p : Int) : AV :=
  if fnOk f && (decide (0 ≤ p) && decide (p < (f.length : Int))) then match pathF f p.toNat with
    | some (q, T, n) => .tup [.agg (.int .i64 (q : Int) :: (tbc T ++ [.int .i64 (n : Int)])), .int .i64 0]
    | none => .tup [.agg (.int .i64 (-1) :: (tbc tb0 ++ [.int .i64 0])), .int .i64 0]
  else .tup [.agg z26, .int .i64 1]
theorem pathA_no {f : List Ins} {p : Int} (h : ¬ (fnOk f = true ∧ 0 ≤ p ∧ p < (f.length : Int))) : pathA f p = .tup [.agg z26, .int .i64 1] := by
  unfold pathA
  rw [if_neg]
  simpa using h
theorem pathA_yes {f : List Ins} {a : Nat} (hf : fnOk f = true) (ha : a < f.length) : pathA f (a : Int) = match pathF f a with
    | some (q, T, n) => .tup [.agg (.int .i64 (q : Int) :: (tbc T ++ [.int .i64 (n : Int)])), .int .i64 0]
    | none => .tup [.agg (.int .i64 (-1) :: (tbc tb0 ++ [.int .i64 0])), .int .i64 0] := by
  unfold pathA
  rw [if_pos (by rw [hf]; simp; omega), Int.toNat_natCast]
end Go.Proofs.YtphmakopjfbmnaaDoor
namespace Go.Proofs.YtphmakopjfbmnaaDoor
open Go.RowKit
set_option linter.unusedVariables false
set_option linter.unusedSimpArgs false
set_option maxRecDepth 20000 in
set_option maxHeartbeats 16000000 in
theorem path_From_ok (f : List Ins) (p : Int) (hfl : f.length ≤ 9223372036854775807) : Pure Tryd.prog 31 [encFn f, .int .i64 p] (pathA f p) := by
  intro H
  refine ACalls.go path_From.low (by simp) fun hcl => ?_
  have h1 := asm_Right_ok f
  unfold encFn at *
  by_cases hr : fnOk f = true ∧ 0 ≤ p ∧ p < (f.length : Int)
  case neg =>
    have hres := pathA_no hr
    rw [hres]
    unfold z26
    clear hres
    by_cases c1 : fnOk f = true
    · rw [c1] at h1
      by_cases c2 : p < 0
      · replace h1 := Hold.mk h1
        replace hr := Hold.mk hr
        replace c1 := Hold.mk c1
        repeat' (first | simp only [seval, evx, beq_self_eq_true, encB_def, encN_def, sb, et, eb, insA, encIns, ins_dec, ins_eta, pathH_eq, Nat.mul_one, tbA_eq, M0_eq, CallA_fn2, *] | simp (disch := omega) only [if_pos, if_neg] | refine R.seq ?_ | refine LCB.text ?_ | refine LCB.quiet rfl ?_ | refine R.anyX ?_ | refine R.block ?_ | refine LCB.skip ?_ | refine LCB.exit ?_ | refine LCB.ret ?_ | ((first | refine RetOk.val hcl ?_ | refine Weak.at hcl ?_); simp only [seval, evw, fm, encB_def, encN_def, sb, et, eb, insA, encIns, ins_dec, ins_eta, pathH_eq, Nat.mul_one, tbA_eq, M0_eq, CallA_fn2, *]) | ((first | refine LCB.cond (by simp only [seval, evx] <;> rfl) ?_ ?_ | refine wpG_split (by simp only [seval, evx] <;> rfl) ?_ ?_ | refine wxG_split (by simp only [seval, evx] <;> rfl) ?_ ?_) <;> (intro hc; try simp only [seval, nf] at hc)) | refine ACalls.inst ?_ | refine CallX.inst ?_ | (with_reducible refine And.intro ?_ ?_) | exact True.intro | refine CallX.pure h1.of ?_ | refine ACalls.pure h1.of ?_)
      · have c3 : (f.length : Int) ≤ p := by
          apply Int.not_lt.1
          intro h
          exact hr ⟨c1, by omega, h⟩
        replace h1 := Hold.mk h1
        replace hr := Hold.mk hr
        replace c1 := Hold.mk c1
        repeat' (first | simp only [seval, evx, beq_self_eq_true, encB_def, encN_def, sb, et, eb, insA, encIns, ins_dec, ins_eta, pathH_eq, Nat.mul_one, tbA_eq, M0_eq, CallA_fn2, *] | simp (disch := omega) only [if_pos, if_neg] | refine R.seq ?_ | refine LCB.text ?_ | refine LCB.quiet rfl ?_ | refine R.anyX ?_ | refine R.block ?_ | refine LCB.skip ?_ | refine LCB.exit ?_ | refine LCB.ret ?_ | ((first | refine RetOk.val hcl ?_ | refine Weak.at hcl ?_); simp only [seval, evw, fm, encB_def, encN_def, sb, et, eb, insA, encIns, ins_dec, ins_eta, pathH_eq, Nat.mul_one, tbA_eq, M0_eq, CallA_fn2, *]) | ((first | refine LCB.cond (by simp only [seval, evx] <;> rfl) ?_ ?_ | refine wpG_split (by simp only [seval, evx] <;> rfl) ?_ ?_ | refine wxG_split (by simp only [seval, evx] <;> rfl) ?_ ?_) <;> (intro hc; try simp only [seval, nf] at hc)) | refine ACalls.inst ?_ | refine CallX.inst ?_ | (with_reducible refine And.intro ?_ ?_) | exact True.intro | refine CallX.pure h1.of ?_ | refine ACalls.pure h1.of ?_)
    · replace c1 : fnOk f = false := by simpa using c1
      rw [c1] at h1
      replace h1 := Hold.mk h1
      replace hr := Hold.mk hr
      replace c1 := Hold.mk c1
      repeat' (first | simp only [seval, evx, beq_self_eq_true, encB_def, encN_def, sb, et, eb, insA, encIns, ins_dec, ins_eta, pathH_eq, Nat.mul_one, tbA_eq, M0_eq, CallA_fn2, *] | simp (disch := omega) only [if_pos, if_neg] | refine R.seq ?_ | refine LCB.text ?_ | refine LCB.quiet rfl ?_ | refine R.anyX ?_ | refine R.block ?_ | refine LCB.skip ?_ | refine LCB.exit ?_ | refine LCB.ret ?_ | ((first | refine RetOk.val hcl ?_ | refine Weak.at hcl ?_); simp only [seval, evw, fm, encB_def, encN_def, sb, et, eb, insA, encIns, ins_dec, ins_eta, pathH_eq, Nat.mul_one, tbA_eq, M0_eq, CallA_fn2, *]) | ((first | refine LCB.cond (by simp only [seval, evx] <;> rfl) ?_ ?_ | refine wpG_split (by simp only [seval, evx] <;> rfl) ?_ ?_ | refine wxG_split (by simp only [seval, evx] <;> rfl) ?_ ?_) <;> (intro hc; try simp only [seval, nf] at hc)) | refine ACalls.inst ?_ | refine CallX.inst ?_ | (with_reducible refine And.intro ?_ ?_) | exact True.intro | refine CallX.pure h1.of ?_ | refine ACalls.pure h1.of ?_)
  obtain ⟨hf, hp0, hp1⟩ := hr
  obtain ⟨a, rfl⟩ := Int.eq_ofNat_of_zero_le hp0
  have ha : a < f.length := by omega
  have hres := pathA_yes hf ha
  rw [hres]
  clear hres hp0
  rw [hf] at h1
  have k200 : f.length ≤ 200 := (fnOk_iff.1 hf).1
  have e1 : ¬ (a : Int) < 0 := by omega
  have e2 : ¬ (f.length : Int) ≤ (a : Int) := by omega
  have hml : (bc M0).length = 200 := by rw [bc_len, M0_len]
  have htl : (tbc tb0).length = 24 := by rw [tbc_len]; rfl
  replace h1 := Hold.mk h1
  replace hf := Hold.mk hf
  (refine R.seq ?_; refine LCB.text ?_; repeat' (first | simp only [seval, evo, beq_self_eq_true, encB_def, encN_def, sb, et, eb, insA, encIns, ins_dec, ins_eta, pathH_eq, Nat.mul_one, tbA_eq, M0_eq, CallA_fn2, *] | simp (disch := omega) only [if_pos, if_neg]))
  refine R.cut [(1, .int .i64 (a : Int)), (2, .ptr H.length 1 0 0), (4, .ptr (H.length + 1) 1 0 0)] (H ++ [.vec 1 [[.list (f.map encIns)]], .vec 26 [[.int .i64 0, .imm .nilIface, .imm .nilIface, .imm .nilIface, .imm .nilIface, .imm .nilIface, .imm .nilIface, .imm .nilIface, .imm .nilIface, .imm .nilIface, .imm .nilIface, .imm .nilIface, .imm .nilIface, .imm .nilIface, .imm .nilIface, .imm .nilIface, .imm .nilIface, .imm .nilIface, .imm .nilIface, .imm .nilIface, .imm .nilIface, .imm .nilIface, .imm .nilIface, .imm .nilIface, .imm .nilIface, .int .i64 0]]]) ?_ ?_
  · repeat' (first | simp only [seval, evx, beq_self_eq_true, encB_def, encN_def, sb, et, eb, insA, encIns, ins_dec, ins_eta, pathH_eq, Nat.mul_one, tbA_eq, M0_eq, CallA_fn2, *] | simp (disch := omega) only [if_pos, if_neg] | refine R.seq ?_ | refine LCB.text ?_ | refine LCB.quiet rfl ?_ | refine R.anyX ?_ | refine R.block ?_ | refine LCB.skip ?_ | refine LCB.exit ?_ | refine LCB.ret ?_ | ((first | refine RetOk.val hcl ?_ | refine Weak.at hcl ?_); simp only [seval, evw, fm, encB_def, encN_def, sb, et, eb, insA, encIns, ins_dec, ins_eta, pathH_eq, Nat.mul_one, tbA_eq, M0_eq, CallA_fn2, *]) | ((first | refine LCB.cond (by simp only [seval, evx] <;> rfl) ?_ ?_ | refine wpG_split (by simp only [seval, evx] <;> rfl) ?_ ?_ | refine wxG_split (by simp only [seval, evx] <;> rfl) ?_ ?_) <;> (intro hc; try simp only [seval, nf] at hc)) | refine ACalls.inst ?_ | refine CallX.inst ?_ | (with_reducible refine And.intro ?_ ?_) | exact True.intro | refine CallX.pure h1.of ?_ | refine ACalls.pure h1.of ?_)
  refine R.cut [(1, .int .i64 (a : Int)), (2, .ptr H.length 1 0 0), (4, .ptr (H.length + 1) 1 0 0), (6, .ptr (H.length + 2) 1 0 0)] (H ++ [.vec 1 [[.list (f.map encIns)]], .vec 26 [[.int .i64 0, .imm .nilIface, .imm .nilIface, .imm .nilIface, .imm .nilIface, .imm .nilIface, .imm .nilIface, .imm .nilIface, .imm .nilIface, .imm .nilIface, .imm .nilIface, .imm .nilIface, .imm .nilIface, .imm .nilIface, .imm .nilIface, .imm .nilIface, .imm .nilIface, .imm .nilIface, .imm .nilIface, .imm .nilIface, .imm .nilIface, .imm .nilIface, .imm .nilIface, .imm .nilIface, .imm .nilIface, .int .i64 0]], .vec 200 [bc M0]]) ?_ ?_
  · repeat' (first | simp only [seval, evx, beq_self_eq_true, encB_def, encN_def, sb, et, eb, insA, encIns, ins_dec, ins_eta, pathH_eq, Nat.mul_one, tbA_eq, M0_eq, CallA_fn2, *] | simp (disch := omega) only [if_pos, if_neg] | refine R.seq ?_ | refine LCB.text ?_ | refine LCB.quiet rfl ?_ | refine R.anyX ?_ | refine R.block ?_ | refine LCB.skip ?_ | refine LCB.exit ?_ | refine LCB.ret ?_ | ((first | refine RetOk.val hcl ?_ | refine Weak.at hcl ?_); simp only [seval, evw, fm, encB_def, encN_def, sb, et, eb, insA, encIns, ins_dec, ins_eta, pathH_eq, Nat.mul_one, tbA_eq, M0_eq, CallA_fn2, *]) | ((first | refine LCB.cond (by simp only [seval, evx] <;> rfl) ?_ ?_ | refine wpG_split (by simp only [seval, evx] <;> rfl) ?_ ?_ | refine wxG_split (by simp only [seval, evx] <;> rfl) ?_ ?_) <;> (intro hc; try simp only [seval, nf] at hc)) | refine ACalls.inst ?_ | refine CallX.inst ?_ | (with_reducible refine And.intro ?_ ?_) | exact True.intro | refine CallX.pure h1.of ?_ | refine ACalls.pure h1.of ?_)
  clear hml
  refine R.cut [(2, .ptr H.length 1 0 0), (4, .ptr (H.length + 1) 1 0 0), (6, .ptr (H.length + 2) 1 0 0), (7, .ptr (H.length + 3) 1 0 0)] (H ++ pathH f M0 a tb0 0 [.int .i64 0, .imm .nilIface, .imm .nilIface, .imm .nilIface, .imm .nilIface, .imm .nilIface, .imm .nilIface, .imm .nilIface, .imm .nilIface, .imm .nilIface, .imm .nilIface, .imm .nilIface, .imm .nilIface, .imm .nilIface, .imm .nilIface, .imm .nilIface, .imm .nilIface, .imm .nilIface, .imm .nilIface, .imm .nilIface, .imm .nilIface, .imm .nilIface, .imm .nilIface, .imm .nilIface, .imm .nilIface, .int .i64 0]) ?_ ?_
  · repeat' (first | simp only [seval, evx, beq_self_eq_true, encB_def, encN_def, sb, et, eb, insA, encIns, ins_dec, ins_eta, pathH_eq, Nat.mul_one, tbA_eq, M0_eq, CallA_fn2, *] | simp (disch := omega) only [if_pos, if_neg] | refine R.seq ?_ | refine LCB.text ?_ | refine LCB.quiet rfl ?_ | refine R.anyX ?_ | refine R.block ?_ | refine LCB.skip ?_ | refine LCB.exit ?_ | refine LCB.ret ?_ | ((first | refine RetOk.val hcl ?_ | refine Weak.at hcl ?_); simp only [seval, evw, fm, encB_def, encN_def, sb, et, eb, insA, encIns, ins_dec, ins_eta, pathH_eq, Nat.mul_one, tbA_eq, M0_eq, CallA_fn2, *]) | ((first | refine LCB.cond (by simp only [seval, evx] <;> rfl) ?_ ?_ | refine wpG_split (by simp only [seval, evx] <;> rfl) ?_ ?_ | refine wxG_split (by simp only [seval, evx] <;> rfl) ?_ ?_) <;> (intro hc; try simp only [seval, nf] at hc)) | refine ACalls.inst ?_ | refine CallX.inst ?_ | (with_reducible refine And.intro ?_ ?_) | exact True.intro | refine CallX.pure h1.of ?_ | refine ACalls.pure h1.of ?_)
  (refine R.seq ?_; refine LCB.text ?_; repeat' (first | simp only [seval, evo, beq_self_eq_true, encB_def, encN_def, sb, et, eb, insA, encIns, ins_dec, ins_eta, pathH_eq, Nat.mul_one, tbA_eq, M0_eq, CallA_fn2, *] | simp (disch := omega) only [if_pos, if_neg]))
  refine R.seq ?_
  refine R.block (R.loop (S := List Nat × List Bool × Nat × Tb) ⟨fun y => [(2, .ptr H.length 1 0 0), (4, .ptr (H.length + 1) 1 0 0), (6, .ptr (H.length + 2) 1 0 0), (7, .ptr (H.length + 3) 1 0 0), (8, .fn (.func 41) [] [.ptr H.length 1 0 0, .ptr (H.length + 3) 1 0 0, .ptr (H.length + 2) 1 0 0])],
    fun y => H ++ pathH f y.2.1 y.2.2.1 y.2.2.2 y.1.length [.int .i64 0, .imm .nilIface, .imm .nilIface, .imm .nilIface, .imm .nilIface, .imm .nilIface, .imm .nilIface, .imm .nilIface, .imm .nilIface, .imm .nilIface, .imm .nilIface, .imm .nilIface, .imm .nilIface, .imm .nilIface, .imm .nilIface, .imm .nilIface, .imm .nilIface, .imm .nilIface, .imm .nilIface, .imm .nilIface, .imm .nilIface, .imm .nilIface, .imm .nilIface, .imm .nilIface, .imm .nilIface, .int .i64 0],
    fun y => PInv f a y.1 y.2.2.1 y.2.2.2 ∧ y.2.1.length = 200 ∧ ∀ j, j < 200 → y.2.1.getD j false = decide (j ∈ y.1), fun y => f.length - y.1.length⟩ ([], M0, a, tb0) ⟨PInv.start ha, M0_len, fun j _ => by rw [M0_get]; simp⟩ (Weak.at hcl ?_) ?_)
  · simp only [seval, evw, fm, encB_def, encN_def, sb, et, eb, insA, encIns, ins_dec, ins_eta, pathH_eq, Nat.mul_one, tbA_eq, M0_eq, CallA_fn2, *]
  rintro ⟨V, M, p, T⟩ ⟨hI, hM, hq⟩
  simp only at hI hM hq ⊢
  have hIl := hI.len
  have hfo := path_follow_ok hcl f M p T V.length [.int .i64 0, .imm .nilIface, .imm .nilIface, .imm .nilIface, .imm .nilIface, .imm .nilIface, .imm .nilIface, .imm .nilIface, .imm .nilIface, .imm .nilIface, .imm .nilIface, .imm .nilIface, .imm .nilIface, .imm .nilIface, .imm .nilIface, .imm .nilIface, .imm .nilIface, .imm .nilIface, .imm .nilIface, .imm .nilIface, .imm .nilIface, .imm .nilIface, .imm .nilIface, .imm .nilIface, .imm .nilIface, .int .i64 0] (fun m => rfl) rfl hf.of hI.lt hM hI.ok (by omega)
  have hgm := bc_get (B := M) (i := p) (by have := hI.lt; omega)
  have g2 : (p : Int) < ((200 : Nat) : Int) := by have := hI.lt; omega
  have hbl : (bc M).length = 200 := by rw [bc_len, hM]
  have htl2 : (tbc T).length = 24 := by rw [tbc_len, hI.ok.1]
  have hstep := fun m1 m2 => hI.step hf.of m1 m2
  have hstop := hI.stop
  have hloop := hI.loop
  have hqp := hq p (by have := hI.lt; omega)
  have hset : ∀ j, j < 200 → (M.set p true).getD j false = decide (j ∈ p :: V) := fun j hj => by
    rw [List.getD_eq_getElem?_getD, List.getElem?_set]
    by_cases e : p = j
    · subst e; simp [hM, hj]
    · rw [if_neg e, ← List.getD_eq_getElem?_getD, hq j hj]
      simp [Ne.symm e]
  have hVl := fun (h : PInv f a (p :: V) (nextPc f p) (afterT T (f.getD p noIns))) => h.len
  clear hI hq
  replace hset := Hold.mk hset
  replace hfo := Hold.mk hfo
  replace hstep := Hold.mk hstep
  replace hstop := Hold.mk hstop
  replace hloop := Hold.mk hloop
  replace hVl := Hold.mk hVl
  replace hqp := Hold.mk hqp
  repeat' (first | simp only [seval, evx, beq_self_eq_true, encB_def, encN_def, sb, et, eb, insA, encIns, ins_dec, ins_eta, pathH_eq, Nat.mul_one, tbA_eq, M0_eq, CallA_fn2, *] | simp (disch := omega) only [if_pos, if_neg] | refine R.seq ?_ | refine LCB.text ?_ | refine LCB.quiet rfl ?_ | refine R.anyX ?_ | refine R.block ?_ | refine LCB.skip ?_ | refine LCB.exit ?_ | refine LCB.ret ?_ | ((first | refine RetOk.val hcl ?_ | refine Weak.at hcl ?_); simp only [seval, evw, fm, encB_def, encN_def, sb, et, eb, insA, encIns, ins_dec, ins_eta, pathH_eq, Nat.mul_one, tbA_eq, M0_eq, CallA_fn2, *]) | ((first | refine LCB.cond (by simp only [seval, evx] <;> rfl) ?_ ?_ | refine wpG_split (by simp only [seval, evx] <;> rfl) ?_ ?_ | refine wxG_split (by simp only [seval, evx] <;> rfl) ?_ ?_) <;> (intro hc; try simp only [seval, nf] at hc)) | refine ACalls.inst ?_ | refine CallX.inst ?_ | (with_reducible refine And.intro ?_ ?_) | exact True.intro | refine CallX.pure h1.of ?_ | refine ACalls.pure h1.of ?_)
  refine hfo.of.mono ?_
  rintro r' H' (⟨m1, m2, rfl, rfl⟩ | ⟨m1, rfl, rfl⟩)
  · have hv : p ∉ V := by
      have := hqp.of
      rw [m2] at this
      simpa using this.symm
    have hI2 := hstep.of m1 hv
    have hl2 := hVl.of hI2
    rw [List.length_cons] at hl2
    replace hI2 := Hold.mk hI2
    repeat' (first | simp only [seval, evx, beq_self_eq_true, encB_def, encN_def, sb, et, eb, insA, encIns, ins_dec, ins_eta, pathH_eq, Nat.mul_one, tbA_eq, M0_eq, CallA_fn2, *] | simp (disch := omega) only [if_pos, if_neg] | refine R.seq ?_ | refine LCB.text ?_ | refine LCB.quiet rfl ?_ | refine R.anyX ?_ | refine R.block ?_ | refine LCB.skip ?_ | refine LCB.exit ?_ | refine LCB.ret ?_ | ((first | refine RetOk.val hcl ?_ | refine Weak.at hcl ?_); simp only [seval, evw, fm, encB_def, encN_def, sb, et, eb, insA, encIns, ins_dec, ins_eta, pathH_eq, Nat.mul_one, tbA_eq, M0_eq, CallA_fn2, *]) | ((first | refine LCB.cond (by simp only [seval, evx] <;> rfl) ?_ ?_ | refine wpG_split (by simp only [seval, evx] <;> rfl) ?_ ?_ | refine wxG_split (by simp only [seval, evx] <;> rfl) ?_ ?_) <;> (intro hc; try simp only [seval, nf] at hc)) | refine ACalls.inst ?_ | refine CallX.inst ?_ | (with_reducible refine And.intro ?_ ?_) | exact True.intro | refine CallX.pure h1.of ?_ | refine ACalls.pure h1.of ?_)
    refine ⟨(p :: V, M.set p true, nextPc f p, afterT T (f.getD p noIns)), ⟨hI2.of, by rw [List.length_set]; exact hM, hset.of⟩, by simp only [List.length_cons]; omega, Weak.at hcl ?_⟩
    simp only [seval, evw, fm, encB_def, encN_def, sb, et, eb, insA, encIns, ins_dec, ins_eta, pathH_eq, Nat.mul_one, tbA_eq, M0_eq, CallA_fn2, *]
  · cases hmp : M.getD p false
    · have hno : movesAt f p = false := m1.resolve_right (by rw [hmp]; simp)
      have hpf := hstop.of hno
      rw [hmp] at hgm
      replace m1 := Hold.mk m1
      replace hno := Hold.mk hno
      repeat' (first | simp only [seval, evx, beq_self_eq_true, encB_def, encN_def, sb, et, eb, insA, encIns, ins_dec, ins_eta, pathH_eq, Nat.mul_one, tbA_eq, M0_eq, CallA_fn2, *] | simp (disch := omega) only [if_pos, if_neg] | refine R.seq ?_ | refine LCB.text ?_ | refine LCB.quiet rfl ?_ | refine R.anyX ?_ | refine R.block ?_ | refine LCB.skip ?_ | refine LCB.exit ?_ | refine LCB.ret ?_ | ((first | refine RetOk.val hcl ?_ | refine Weak.at hcl ?_); simp only [seval, evw, fm, encB_def, encN_def, sb, et, eb, insA, encIns, ins_dec, ins_eta, pathH_eq, Nat.mul_one, tbA_eq, M0_eq, CallA_fn2, *]) | ((first | refine LCB.cond (by simp only [seval, evx] <;> rfl) ?_ ?_ | refine wpG_split (by simp only [seval, evx] <;> rfl) ?_ ?_ | refine wxG_split (by simp only [seval, evx] <;> rfl) ?_ ?_) <;> (intro hc; try simp only [seval, nf] at hc)) | refine ACalls.inst ?_ | refine CallX.inst ?_ | (with_reducible refine And.intro ?_ ?_) | exact True.intro | refine CallX.pure h1.of ?_ | refine ACalls.pure h1.of ?_)
    · have hv : p ∈ V := by
        have := hqp.of
        rw [hmp] at this
        simpa using this.symm
      have hpf := hloop.of hv
      rw [hmp] at hgm
      replace m1 := Hold.mk m1
      replace hv := Hold.mk hv
      repeat' (first | simp only [seval, evx, beq_self_eq_true, encB_def, encN_def, sb, et, eb, insA, encIns, ins_dec, ins_eta, pathH_eq, Nat.mul_one, tbA_eq, M0_eq, CallA_fn2, *] | simp (disch := omega) only [if_pos, if_neg] | refine R.seq ?_ | refine LCB.text ?_ | refine LCB.quiet rfl ?_ | refine R.anyX ?_ | refine R.block ?_ | refine LCB.skip ?_ | refine LCB.exit ?_ | refine LCB.ret ?_ | ((first | refine RetOk.val hcl ?_ | refine Weak.at hcl ?_); simp only [seval, evw, fm, encB_def, encN_def, sb, et, eb, insA, encIns, ins_dec, ins_eta, pathH_eq, Nat.mul_one, tbA_eq, M0_eq, CallA_fn2, *]) | ((first | refine LCB.cond (by simp only [seval, evx] <;> rfl) ?_ ?_ | refine wpG_split (by simp only [seval, evx] <;> rfl) ?_ ?_ | refine wxG_split (by simp only [seval, evx] <;> rfl) ?_ ?_) <;> (intro hc; try simp only [seval, nf] at hc)) | refine ACalls.inst ?_ | refine CallX.inst ?_ | (with_reducible refine And.intro ?_ ?_) | exact True.intro | refine CallX.pure h1.of ?_ | refine ACalls.pure h1.of ?_)
end Go.Proofs.YtphmakopjfbmnaaDoor
namespace Go.Proofs.YtphmakopjfbmnaaDoor
open Go.RowKit
set_option linter.unusedVariables false
set_option linter.unusedSimpArgs false
theorem w_dec (x y : W) : ((x.is == y.is) && decide (x.v = y.v)) = decide (x = y) := by
  cases x; cases y
  rw [Bool.eq_iff_iff]
  simp
theorem ev_dec (x y : Ev) : (decide (x.n = y.n) && (decide (x.arg = y.arg) && decide (x.ans = y.ans))) = decide (x = y) := by
  cases x; cases y
  rw [Bool.eq_iff_iff]
  simp
theorem step_own_ok (s : St) (hL : s.L.length = 24) (hh : s.heap.length ≤ 1000) : Pure Tryd.prog 52 [stA s] (stA s) := by
  intro H
  refine ACalls.go step_own.low (by simp) fun hcl => ?_
  have hwl : (wc s.L).length = 48 := by rw [wc_len, hL]
  rw [stA_eq]
  have rk : rowsOk 1 (s.heap.map encI) = true := rk_map fun x _ => ⟨rfl, rfl⟩
  have b1 : s.heap.length * 8 ≤ 140737488355328 := by omega
  have b2 : s.heap.length ≤ 9223372036854775807 := by omega
  replace hL := Hold.mk hL
  repeat' (first | simp only [seval, evx, beq_self_eq_true, sb, ew, insA, encIns, ins_dec, ins_eta, w_dec, ev_dec, *] | simp (disch := omega) only [if_pos, if_neg] | refine R.seq ?_ | refine LCB.text ?_ | refine LCB.quiet rfl ?_ | refine R.anyX ?_ | refine R.block ?_ | refine LCB.skip ?_ | refine LCB.exit ?_ | refine LCB.ret ?_ | ((first | refine RetOk.val hcl ?_ | refine Weak.at hcl ?_); simp only [seval, evw, fm, sb, ew, insA, encIns, ins_dec, ins_eta, w_dec, ev_dec, *]) | ((first | refine LCB.cond (by simp only [seval, evx] <;> rfl) ?_ ?_ | refine wpG_split (by simp only [seval, evx] <;> rfl) ?_ ?_ | refine wxG_split (by simp only [seval, evx] <;> rfl) ?_ ?_) <;> (intro hc; try simp only [seval, nf] at hc)) | refine ACalls.inst ?_ | refine CallX.inst ?_ | (with_reducible refine And.intro ?_ ?_) | exact True.intro)
end Go.Proofs.YtphmakopjfbmnaaDoor
namespace Go.Proofs.YtphmakopjfbmnaaDoor
open Go.RowKit
set_option linter.unusedVariables false
set_option linter.unusedSimpArgs false
def flagI (b : Bool) : Int := if b then 1 else 0
def numDo (op a b : Int) : Int × Int :=
  if op = 4 then (IntKind.i64.wrap (a + b), 0)
  else if op = 5 then (IntKind.i64.wrap (a - b), 0)
  else if op = 6 then (IntKind.i64.wrap (a * b), 0)
  else if op = 7 then (if b = 0 then (0, 3) else (IntKind.i64.wrap (a.tdiv b), 0))
  else if op = 8 then (bits .and .i64 a b, 0)
  else if op = 9 then (bits .or .i64 a b, 0)
  else if op = 10 then (bits .xor .i64 a b, 0)
  else if op = 11 then (flagI (decide (a < b)), 0)
  else if op = 12 then (flagI (decide (a = b)), 0)
  else (0, 2)
def nopR (q : Int × Int) : AV := .tup [.int .i64 q.1, .int .i64 q.2]
theorem num_flag_ok (b : Bool) : Pure Tryd.prog 75 [.bool b] (.int .i64 (flagI b)) := by
  intro H
  refine ACalls.go num_flag.low (by simp) fun hcl => ?_
  cases b
  all_goals
    repeat' (first | simp only [seval, evo, beq_self_eq_true, sb, *] | simp (disch := omega) only [if_pos, if_neg] | refine R.seq ?_ | refine LCB.text ?_ | refine LCB.quiet rfl ?_ | refine R.calls rfl ?_ | refine R.block ?_ | refine LCB.skip ?_ | refine LCB.exit ?_ | refine LCB.ret ?_ | ((first | refine RetOk.val hcl ?_ | refine Weak.at hcl ?_); simp only [seval, evw, fm, sb, *]) | ((first | refine LCB.cond (by simp only [seval, evo] <;> rfl) ?_ ?_ | refine wpG_split (by simp only [seval, evo] <;> rfl) ?_ ?_ | refine wqG_split (by simp only [seval, evo] <;> rfl) ?_ ?_) <;> (intro hc; try simp only [seval, nf] at hc)) | refine ACalls.inst ?_ | refine CallP.inst rfl ?_)
    rfl
theorem num_deed1_ok (a b : Int) : Pure Tryd.prog 67 [.int .i64 a, .int .i64 b] (.int .i64 (IntKind.i64.wrap (a + b))) := by
  intro H
  refine ACalls.go num_deeds_1.low (by simp) fun hcl => ?_
  repeat' (first | simp only [seval, evo, beq_self_eq_true, sb, *] | simp (disch := omega) only [if_pos, if_neg] | refine R.seq ?_ | refine LCB.text ?_ | refine LCB.quiet rfl ?_ | refine R.calls rfl ?_ | refine R.block ?_ | refine LCB.skip ?_ | refine LCB.exit ?_ | refine LCB.ret ?_ | ((first | refine RetOk.val hcl ?_ | refine Weak.at hcl ?_); simp only [seval, evw, fm, sb, *]) | ((first | refine LCB.cond (by simp only [seval, evo] <;> rfl) ?_ ?_ | refine wpG_split (by simp only [seval, evo] <;> rfl) ?_ ?_ | refine wqG_split (by simp only [seval, evo] <;> rfl) ?_ ?_) <;> (intro hc; try simp only [seval, nf] at hc)) | refine ACalls.inst ?_ | refine CallP.inst rfl ?_)
theorem num_deed2_ok (a b : Int) : Pure Tryd.prog 68 [.int .i64 a, .int .i64 b] (.int .i64 (IntKind.i64.wrap (a - b))) := by
  intro H
  refine ACalls.go num_deeds_2.low (by simp) fun hcl => ?_
  repeat' (first | simp only [seval, evo, beq_self_eq_true, sb, *] | simp (disch := omega) only [if_pos, if_neg] | refine R.seq ?_ | refine LCB.text ?_ | refine LCB.quiet rfl ?_ | refine R.calls rfl ?_ | refine R.block ?_ | refine LCB.skip ?_ | refine LCB.exit ?_ | refine LCB.ret ?_ | ((first | refine RetOk.val hcl ?_ | refine Weak.at hcl ?_); simp only [seval, evw, fm, sb, *]) | ((first | refine LCB.cond (by simp only [seval, evo] <;> rfl) ?_ ?_ | refine wpG_split (by simp only [seval, evo] <;> rfl) ?_ ?_ | refine wqG_split (by simp only [seval, evo] <;> rfl) ?_ ?_) <;> (intro hc; try simp only [seval, nf] at hc)) | refine ACalls.inst ?_ | refine CallP.inst rfl ?_)
theorem num_deed3_ok (a b : Int) : Pure Tryd.prog 69 [.int .i64 a, .int .i64 b] (.int .i64 (IntKind.i64.wrap (a * b))) := by
  intro H
  refine ACalls.go num_deeds_3.low (by simp) fun hcl => ?_
  repeat' (first | simp only [seval, evo, beq_self_eq_true, sb, *] | simp (disch := omega) only [if_pos, if_neg] | refine R.seq ?_ | refine LCB.text ?_ | refine LCB.quiet rfl ?_ | refine R.calls rfl ?_ | refine R.block ?_ | refine LCB.skip ?_ | refine LCB.exit ?_ | refine LCB.ret ?_ | ((first | refine RetOk.val hcl ?_ | refine Weak.at hcl ?_); simp only [seval, evw, fm, sb, *]) | ((first | refine LCB.cond (by simp only [seval, evo] <;> rfl) ?_ ?_ | refine wpG_split (by simp only [seval, evo] <;> rfl) ?_ ?_ | refine wqG_split (by simp only [seval, evo] <;> rfl) ?_ ?_) <;> (intro hc; try simp only [seval, nf] at hc)) | refine ACalls.inst ?_ | refine CallP.inst rfl ?_)
theorem num_deed5_ok (a b : Int) : Pure Tryd.prog 71 [.int .i64 a, .int .i64 b] (.int .i64 (bits .and .i64 a b)) := by
  intro H
  refine ACalls.go num_deeds_5.low (by simp) fun hcl => ?_
  repeat' (first | simp only [seval, evo, beq_self_eq_true, sb, *] | simp (disch := omega) only [if_pos, if_neg] | refine R.seq ?_ | refine LCB.text ?_ | refine LCB.quiet rfl ?_ | refine R.calls rfl ?_ | refine R.block ?_ | refine LCB.skip ?_ | refine LCB.exit ?_ | refine LCB.ret ?_ | ((first | refine RetOk.val hcl ?_ | refine Weak.at hcl ?_); simp only [seval, evw, fm, sb, *]) | ((first | refine LCB.cond (by simp only [seval, evo] <;> rfl) ?_ ?_ | refine wpG_split (by simp only [seval, evo] <;> rfl) ?_ ?_ | refine wqG_split (by simp only [seval, evo] <;> rfl) ?_ ?_) <;> (intro hc; try simp only [seval, nf] at hc)) | refine ACalls.inst ?_ | refine CallP.inst rfl ?_)
theorem num_deed6_ok (a b : Int) : Pure Tryd.prog 72 [.int .i64 a, .int .i64 b] (.int .i64 (bits .or .i64 a b)) := by
  intro H
  refine ACalls.go num_deeds_6.low (by simp) fun hcl => ?_
  repeat' (first | simp only [seval, evo, beq_self_eq_true, sb, *] | simp (disch := omega) only [if_pos, if_neg] | refine R.seq ?_ | refine LCB.text ?_ | refine LCB.quiet rfl ?_ | refine R.calls rfl ?_ | refine R.block ?_ | refine LCB.skip ?_ | refine LCB.exit ?_ | refine LCB.ret ?_ | ((first | refine RetOk.val hcl ?_ | refine Weak.at hcl ?_); simp only [seval, evw, fm, sb, *]) | ((first | refine LCB.cond (by simp only [seval, evo] <;> rfl) ?_ ?_ | refine wpG_split (by simp only [seval, evo] <;> rfl) ?_ ?_ | refine wqG_split (by simp only [seval, evo] <;> rfl) ?_ ?_) <;> (intro hc; try simp only [seval, nf] at hc)) | refine ACalls.inst ?_ | refine CallP.inst rfl ?_)
theorem num_deed7_ok (a b : Int) : Pure Tryd.prog 73 [.int .i64 a, .int .i64 b] (.int .i64 (bits .xor .i64 a b)) := by
  intro H
  refine ACalls.go num_deeds_7.low (by simp) fun hcl => ?_
  repeat' (first | simp only [seval, evo, beq_self_eq_true, sb, *] | simp (disch := omega) only [if_pos, if_neg] | refine R.seq ?_ | refine LCB.text ?_ | refine LCB.quiet rfl ?_ | refine R.calls rfl ?_ | refine R.block ?_ | refine LCB.skip ?_ | refine LCB.exit ?_ | refine LCB.ret ?_ | ((first | refine RetOk.val hcl ?_ | refine Weak.at hcl ?_); simp only [seval, evw, fm, sb, *]) | ((first | refine LCB.cond (by simp only [seval, evo] <;> rfl) ?_ ?_ | refine wpG_split (by simp only [seval, evo] <;> rfl) ?_ ?_ | refine wqG_split (by simp only [seval, evo] <;> rfl) ?_ ?_) <;> (intro hc; try simp only [seval, nf] at hc)) | refine ACalls.inst ?_ | refine CallP.inst rfl ?_)
theorem num_deed8_ok (a b : Int) : Pure Tryd.prog 74 [.int .i64 a, .int .i64 b] (.int .i64 (flagI (decide (a < b)))) := by
  intro H
  refine ACalls.go num_deeds_8.low (by simp) fun hcl => ?_
  have h1 := Hold.mk (num_flag_ok (decide (a < b)))
  repeat' (first | simp only [seval, evo, beq_self_eq_true, sb, *] | simp (disch := omega) only [if_pos, if_neg] | refine R.seq ?_ | refine LCB.text ?_ | refine LCB.quiet rfl ?_ | refine R.calls rfl ?_ | refine R.block ?_ | refine LCB.skip ?_ | refine LCB.exit ?_ | refine LCB.ret ?_ | ((first | refine RetOk.val hcl ?_ | refine Weak.at hcl ?_); simp only [seval, evw, fm, sb, *]) | ((first | refine LCB.cond (by simp only [seval, evo] <;> rfl) ?_ ?_ | refine wpG_split (by simp only [seval, evo] <;> rfl) ?_ ?_ | refine wqG_split (by simp only [seval, evo] <;> rfl) ?_ ?_) <;> (intro hc; try simp only [seval, nf] at hc)) | refine ACalls.inst ?_ | refine CallP.inst rfl ?_)
  first | refine ACalls.pure (h1.of) ?_ | refine CallP.pure (h1.of) rfl ?_ | refine CallX.pure (h1.of) ?_
  repeat' (first | simp only [seval, evo, beq_self_eq_true, sb, *] | simp (disch := omega) only [if_pos, if_neg] | refine R.seq ?_ | refine LCB.text ?_ | refine LCB.quiet rfl ?_ | refine R.calls rfl ?_ | refine R.block ?_ | refine LCB.skip ?_ | refine LCB.exit ?_ | refine LCB.ret ?_ | ((first | refine RetOk.val hcl ?_ | refine Weak.at hcl ?_); simp only [seval, evw, fm, sb, *]) | ((first | refine LCB.cond (by simp only [seval, evo] <;> rfl) ?_ ?_ | refine wpG_split (by simp only [seval, evo] <;> rfl) ?_ ?_ | refine wqG_split (by simp only [seval, evo] <;> rfl) ?_ ?_) <;> (intro hc; try simp only [seval, nf] at hc)) | refine ACalls.inst ?_ | refine CallP.inst rfl ?_)
theorem num_deed9_ok (a b : Int) : Pure Tryd.prog 76 [.int .i64 a, .int .i64 b] (.int .i64 (flagI (decide (a = b)))) := by
  intro H
  refine ACalls.go num_deeds_9.low (by simp) fun hcl => ?_
  have h1 := Hold.mk (num_flag_ok (decide (a = b)))
  repeat' (first | simp only [seval, evo, beq_self_eq_true, sb, *] | simp (disch := omega) only [if_pos, if_neg] | refine R.seq ?_ | refine LCB.text ?_ | refine LCB.quiet rfl ?_ | refine R.calls rfl ?_ | refine R.block ?_ | refine LCB.skip ?_ | refine LCB.exit ?_ | refine LCB.ret ?_ | ((first | refine RetOk.val hcl ?_ | refine Weak.at hcl ?_); simp only [seval, evw, fm, sb, *]) | ((first | refine LCB.cond (by simp only [seval, evo] <;> rfl) ?_ ?_ | refine wpG_split (by simp only [seval, evo] <;> rfl) ?_ ?_ | refine wqG_split (by simp only [seval, evo] <;> rfl) ?_ ?_) <;> (intro hc; try simp only [seval, nf] at hc)) | refine ACalls.inst ?_ | refine CallP.inst rfl ?_)
  first | refine ACalls.pure (h1.of) ?_ | refine CallP.pure (h1.of) rfl ?_ | refine CallX.pure (h1.of) ?_
  repeat' (first | simp only [seval, evo, beq_self_eq_true, sb, *] | simp (disch := omega) only [if_pos, if_neg] | refine R.seq ?_ | refine LCB.text ?_ | refine LCB.quiet rfl ?_ | refine R.calls rfl ?_ | refine R.block ?_ | refine LCB.skip ?_ | refine LCB.exit ?_ | refine LCB.ret ?_ | ((first | refine RetOk.val hcl ?_ | refine Weak.at hcl ?_); simp only [seval, evw, fm, sb, *]) | ((first | refine LCB.cond (by simp only [seval, evo] <;> rfl) ?_ ?_ | refine wpG_split (by simp only [seval, evo] <;> rfl) ?_ ?_ | refine wqG_split (by simp only [seval, evo] <;> rfl) ?_ ?_) <;> (intro hc; try simp only [seval, nf] at hc)) | refine ACalls.inst ?_ | refine CallP.inst rfl ?_)
theorem num_deed4_ok (a b : Int) (hb : ¬ b = 0) : Pure Tryd.prog 70 [.int .i64 a, .int .i64 b] (.int .i64 (IntKind.i64.wrap (a.tdiv b))) := by
  intro H
  refine ACalls.go num_deeds_4.low (by simp) fun hcl => ?_
  repeat' (first | simp only [seval, evo, beq_self_eq_true, sb, *] | simp (disch := omega) only [if_pos, if_neg] | refine R.seq ?_ | refine LCB.text ?_ | refine LCB.quiet rfl ?_ | refine R.calls rfl ?_ | refine R.block ?_ | refine LCB.skip ?_ | refine LCB.exit ?_ | refine LCB.ret ?_ | ((first | refine RetOk.val hcl ?_ | refine Weak.at hcl ?_); simp only [seval, evw, fm, sb, *]) | ((first | refine LCB.cond (by simp only [seval, evo] <;> rfl) ?_ ?_ | refine wpG_split (by simp only [seval, evo] <;> rfl) ?_ ?_ | refine wqG_split (by simp only [seval, evo] <;> rfl) ?_ ?_) <;> (intro hc; try simp only [seval, nf] at hc)) | refine ACalls.inst ?_ | refine CallP.inst rfl ?_)
def deedE : List (AV × AV) := [(.int .i64 4, .fn (.func 67) [] []), (.int .i64 5, .fn (.func 68) [] []), (.int .i64 6, .fn (.func 69) [] []), (.int .i64 7, .fn (.func 70) [] []), (.int .i64 8, .fn (.func 71) [] []), (.int .i64 9, .fn (.func 72) [] []), (.int .i64 10, .fn (.func 73) [] []), (.int .i64 11, .fn (.func 74) [] []), (.int .i64 12, .fn (.func 76) [] [])]
theorem deedE_eq : deedE = [(.int .i64 4, .fn (.func 67) [] []), (.int .i64 5, .fn (.func 68) [] []), (.int .i64 6, .fn (.func 69) [] []), (.int .i64 7, .fn (.func 70) [] []), (.int .i64 8, .fn (.func 71) [] []), (.int .i64 9, .fn (.func 72) [] []), (.int .i64 10, .fn (.func 73) [] []), (.int .i64 11, .fn (.func 74) [] []), (.int .i64 12, .fn (.func 76) [] [])] := rfl
theorem num_deeds_ok (H : List AObj) : ACalls Tryd.prog 65 [] H fun r H' => r = .map H.length ∧ H' = H ++ [.map deedE] := by
  refine ACalls.go num_deeds.low (by simp) fun hcl => ?_
  repeat' (first | simp only [seval, evo, beq_self_eq_true, sb, *] | simp (disch := omega) only [if_pos, if_neg] | refine R.seq ?_ | refine LCB.text ?_ | refine LCB.quiet rfl ?_ | refine R.calls rfl ?_ | refine R.block ?_ | refine LCB.skip ?_ | refine LCB.exit ?_ | refine LCB.ret ?_ | ((first | refine RetOk.val hcl ?_ | refine Weak.at hcl ?_); simp only [seval, evw, fm, sb, *]) | ((first | refine LCB.cond (by simp only [seval, evo] <;> rfl) ?_ ?_ | refine wpG_split (by simp only [seval, evo] <;> rfl) ?_ ?_ | refine wqG_split (by simp only [seval, evo] <;> rfl) ?_ ?_) <;> (intro hc; try simp only [seval, nf] at hc)) | refine ACalls.inst ?_ | refine CallP.inst rfl ?_)
  refine RetOk.fin [.map deedE] (.map H.length) hcl ⟨?_, ?_⟩ ?_ ⟨rfl, rfl⟩
  · rfl
  · rw [deedE_eq]
    simp only [seval, evw, fm, sb, *]
  · simp only [seval, evw, fm, sb, *]
    all_goals simp
set_option maxHeartbeats 1000000 in
theorem num_Do_ok (op a b : Int) : Pure Tryd.prog 61 [.int .i64 op, .int .i64 a, .int .i64 b] (nopR (numDo op a b)) := by
  intro H
  refine ACalls.go num_Do.low (by simp) fun hcl => ?_
  unfold nopR
  by_cases o4 : op = 4
  · subst o4
    have hr : numDo 4 a b = (IntKind.i64.wrap (a + b), 0) := by simp [numDo]
    rw [hr]
    have h1 := Hold.mk (num_deed1_ok a b)
    repeat' (first | simp only [seval, evo, beq_self_eq_true, sb, *] | simp (disch := omega) only [if_pos, if_neg] | refine R.seq ?_ | refine LCB.text ?_ | refine LCB.quiet rfl ?_ | refine R.calls rfl ?_ | refine R.block ?_ | refine LCB.skip ?_ | refine LCB.exit ?_ | refine LCB.ret ?_ | ((first | refine RetOk.val hcl ?_ | refine Weak.at hcl ?_); simp only [seval, evw, fm, sb, *]) | ((first | refine LCB.cond (by simp only [seval, evo] <;> rfl) ?_ ?_ | refine wpG_split (by simp only [seval, evo] <;> rfl) ?_ ?_ | refine wqG_split (by simp only [seval, evo] <;> rfl) ?_ ?_) <;> (intro hc; try simp only [seval, nf] at hc)) | refine ACalls.inst ?_ | refine CallP.inst rfl ?_)
    refine (num_deeds_ok _).mono ?_
    rintro r H' ⟨rfl, rfl⟩
    rw [deedE_eq]
    repeat' (first | simp only [seval, evo, beq_self_eq_true, sb, *] | simp (disch := omega) only [if_pos, if_neg] | refine R.seq ?_ | refine LCB.text ?_ | refine LCB.quiet rfl ?_ | refine R.calls rfl ?_ | refine R.block ?_ | refine LCB.skip ?_ | refine LCB.exit ?_ | refine LCB.ret ?_ | ((first | refine RetOk.val hcl ?_ | refine Weak.at hcl ?_); simp only [seval, evw, fm, sb, *]) | ((first | refine LCB.cond (by simp only [seval, evo] <;> rfl) ?_ ?_ | refine wpG_split (by simp only [seval, evo] <;> rfl) ?_ ?_ | refine wqG_split (by simp only [seval, evo] <;> rfl) ?_ ?_) <;> (intro hc; try simp only [seval, nf] at hc)) | refine ACalls.inst ?_ | refine CallP.inst rfl ?_)
    first | refine ACalls.pure (h1.of) ?_ | refine CallP.pure (h1.of) rfl ?_ | refine CallX.pure (h1.of) ?_
    repeat' (first | simp only [seval, evo, beq_self_eq_true, sb, *] | simp (disch := omega) only [if_pos, if_neg] | refine R.seq ?_ | refine LCB.text ?_ | refine LCB.quiet rfl ?_ | refine R.calls rfl ?_ | refine R.block ?_ | refine LCB.skip ?_ | refine LCB.exit ?_ | refine LCB.ret ?_ | ((first | refine RetOk.val hcl ?_ | refine Weak.at hcl ?_); simp only [seval, evw, fm, sb, *]) | ((first | refine LCB.cond (by simp only [seval, evo] <;> rfl) ?_ ?_ | refine wpG_split (by simp only [seval, evo] <;> rfl) ?_ ?_ | refine wqG_split (by simp only [seval, evo] <;> rfl) ?_ ?_) <;> (intro hc; try simp only [seval, nf] at hc)) | refine ACalls.inst ?_ | refine CallP.inst rfl ?_)
  by_cases o5 : op = 5
  · subst o5
    have hr : numDo 5 a b = (IntKind.i64.wrap (a - b), 0) := by simp [numDo]
    rw [hr]
    have h1 := Hold.mk (num_deed2_ok a b)
    repeat' (first | simp only [seval, evo, beq_self_eq_true, sb, *] | simp (disch := omega) only [if_pos, if_neg] | refine R.seq ?_ | refine LCB.text ?_ | refine LCB.quiet rfl ?_ | refine R.calls rfl ?_ | refine R.block ?_ | refine LCB.skip ?_ | refine LCB.exit ?_ | refine LCB.ret ?_ | ((first | refine RetOk.val hcl ?_ | refine Weak.at hcl ?_); simp only [seval, evw, fm, sb, *]) | ((first | refine LCB.cond (by simp only [seval, evo] <;> rfl) ?_ ?_ | refine wpG_split (by simp only [seval, evo] <;> rfl) ?_ ?_ | refine wqG_split (by simp only [seval, evo] <;> rfl) ?_ ?_) <;> (intro hc; try simp only [seval, nf] at hc)) | refine ACalls.inst ?_ | refine CallP.inst rfl ?_)
    refine (num_deeds_ok _).mono ?_
    rintro r H' ⟨rfl, rfl⟩
    rw [deedE_eq]
    repeat' (first | simp only [seval, evo, beq_self_eq_true, sb, *] | simp (disch := omega) only [if_pos, if_neg] | refine R.seq ?_ | refine LCB.text ?_ | refine LCB.quiet rfl ?_ | refine R.calls rfl ?_ | refine R.block ?_ | refine LCB.skip ?_ | refine LCB.exit ?_ | refine LCB.ret ?_ | ((first | refine RetOk.val hcl ?_ | refine Weak.at hcl ?_); simp only [seval, evw, fm, sb, *]) | ((first | refine LCB.cond (by simp only [seval, evo] <;> rfl) ?_ ?_ | refine wpG_split (by simp only [seval, evo] <;> rfl) ?_ ?_ | refine wqG_split (by simp only [seval, evo] <;> rfl) ?_ ?_) <;> (intro hc; try simp only [seval, nf] at hc)) | refine ACalls.inst ?_ | refine CallP.inst rfl ?_)
    first | refine ACalls.pure (h1.of) ?_ | refine CallP.pure (h1.of) rfl ?_ | refine CallX.pure (h1.of) ?_
    repeat' (first | simp only [seval, evo, beq_self_eq_true, sb, *] | simp (disch := omega) only [if_pos, if_neg] | refine R.seq ?_ | refine LCB.text ?_ | refine LCB.quiet rfl ?_ | refine R.calls rfl ?_ | refine R.block ?_ | refine LCB.skip ?_ | refine LCB.exit ?_ | refine LCB.ret ?_ | ((first | refine RetOk.val hcl ?_ | refine Weak.at hcl ?_); simp only [seval, evw, fm, sb, *]) | ((first | refine LCB.cond (by simp only [seval, evo] <;> rfl) ?_ ?_ | refine wpG_split (by simp only [seval, evo] <;> rfl) ?_ ?_ | refine wqG_split (by simp only [seval, evo] <;> rfl) ?_ ?_) <;> (intro hc; try simp only [seval, nf] at hc)) | refine ACalls.inst ?_ | refine CallP.inst rfl ?_)
  by_cases o6 : op = 6
  · subst o6
    have hr : numDo 6 a b = (IntKind.i64.wrap (a * b), 0) := by simp [numDo]
    rw [hr]
    have h1 := Hold.mk (num_deed3_ok a b)
    repeat' (first | simp only [seval, evo, beq_self_eq_true, sb, *] | simp (disch := omega) only [if_pos, if_neg] | refine R.seq ?_ | refine LCB.text ?_ | refine LCB.quiet rfl ?_ | refine R.calls rfl ?_ | refine R.block ?_ | refine LCB.skip ?_ | refine LCB.exit ?_ | refine LCB.ret ?_ | ((first | refine RetOk.val hcl ?_ | refine Weak.at hcl ?_); simp only [seval, evw, fm, sb, *]) | ((first | refine LCB.cond (by simp only [seval, evo] <;> rfl) ?_ ?_ | refine wpG_split (by simp only [seval, evo] <;> rfl) ?_ ?_ | refine wqG_split (by simp only [seval, evo] <;> rfl) ?_ ?_) <;> (intro hc; try simp only [seval, nf] at hc)) | refine ACalls.inst ?_ | refine CallP.inst rfl ?_)
    refine (num_deeds_ok _).mono ?_
    rintro r H' ⟨rfl, rfl⟩
    rw [deedE_eq]
    repeat' (first | simp only [seval, evo, beq_self_eq_true, sb, *] | simp (disch := omega) only [if_pos, if_neg] | refine R.seq ?_ | refine LCB.text ?_ | refine LCB.quiet rfl ?_ | refine R.calls rfl ?_ | refine R.block ?_ | refine LCB.skip ?_ | refine LCB.exit ?_ | refine LCB.ret ?_ | ((first | refine RetOk.val hcl ?_ | refine Weak.at hcl ?_); simp only [seval, evw, fm, sb, *]) | ((first | refine LCB.cond (by simp only [seval, evo] <;> rfl) ?_ ?_ | refine wpG_split (by simp only [seval, evo] <;> rfl) ?_ ?_ | refine wqG_split (by simp only [seval, evo] <;> rfl) ?_ ?_) <;> (intro hc; try simp only [seval, nf] at hc)) | refine ACalls.inst ?_ | refine CallP.inst rfl ?_)
    first | refine ACalls.pure (h1.of) ?_ | refine CallP.pure (h1.of) rfl ?_ | refine CallX.pure (h1.of) ?_
    repeat' (first | simp only [seval, evo, beq_self_eq_true, sb, *] | simp (disch := omega) only [if_pos, if_neg] | refine R.seq ?_ | refine LCB.text ?_ | refine LCB.quiet rfl ?_ | refine R.calls rfl ?_ | refine R.block ?_ | refine LCB.skip ?_ | refine LCB.exit ?_ | refine LCB.ret ?_ | ((first | refine RetOk.val hcl ?_ | refine Weak.at hcl ?_); simp only [seval, evw, fm, sb, *]) | ((first | refine LCB.cond (by simp only [seval, evo] <;> rfl) ?_ ?_ | refine wpG_split (by simp only [seval, evo] <;> rfl) ?_ ?_ | refine wqG_split (by simp only [seval, evo] <;> rfl) ?_ ?_) <;> (intro hc; try simp only [seval, nf] at hc)) | refine ACalls.inst ?_ | refine CallP.inst rfl ?_)
  by_cases o7 : op = 7
  · subst o7
    by_cases hb : b = 0
    · have hr : numDo 7 a b = (0, 3) := by simp [numDo, hb]
      rw [hr]
      repeat' (first | simp only [seval, evo, beq_self_eq_true, sb, *] | simp (disch := omega) only [if_pos, if_neg] | refine R.seq ?_ | refine LCB.text ?_ | refine LCB.quiet rfl ?_ | refine R.calls rfl ?_ | refine R.block ?_ | refine LCB.skip ?_ | refine LCB.exit ?_ | refine LCB.ret ?_ | ((first | refine RetOk.val hcl ?_ | refine Weak.at hcl ?_); simp only [seval, evw, fm, sb, *]) | ((first | refine LCB.cond (by simp only [seval, evo] <;> rfl) ?_ ?_ | refine wpG_split (by simp only [seval, evo] <;> rfl) ?_ ?_ | refine wqG_split (by simp only [seval, evo] <;> rfl) ?_ ?_) <;> (intro hc; try simp only [seval, nf] at hc)) | refine ACalls.inst ?_ | refine CallP.inst rfl ?_)
      refine (num_deeds_ok _).mono ?_
      rintro r H' ⟨rfl, rfl⟩
      rw [deedE_eq]
      repeat' (first | simp only [seval, evo, beq_self_eq_true, sb, *] | simp (disch := omega) only [if_pos, if_neg] | refine R.seq ?_ | refine LCB.text ?_ | refine LCB.quiet rfl ?_ | refine R.calls rfl ?_ | refine R.block ?_ | refine LCB.skip ?_ | refine LCB.exit ?_ | refine LCB.ret ?_ | ((first | refine RetOk.val hcl ?_ | refine Weak.at hcl ?_); simp only [seval, evw, fm, sb, *]) | ((first | refine LCB.cond (by simp only [seval, evo] <;> rfl) ?_ ?_ | refine wpG_split (by simp only [seval, evo] <;> rfl) ?_ ?_ | refine wqG_split (by simp only [seval, evo] <;> rfl) ?_ ?_) <;> (intro hc; try simp only [seval, nf] at hc)) | refine ACalls.inst ?_ | refine CallP.inst rfl ?_)
    · have hr : numDo 7 a b = (IntKind.i64.wrap (a.tdiv b), 0) := by simp [numDo, hb]
      rw [hr]
      have h1 := Hold.mk (num_deed4_ok a b hb)
      repeat' (first | simp only [seval, evo, beq_self_eq_true, sb, *] | simp (disch := omega) only [if_pos, if_neg] | refine R.seq ?_ | refine LCB.text ?_ | refine LCB.quiet rfl ?_ | refine R.calls rfl ?_ | refine R.block ?_ | refine LCB.skip ?_ | refine LCB.exit ?_ | refine LCB.ret ?_ | ((first | refine RetOk.val hcl ?_ | refine Weak.at hcl ?_); simp only [seval, evw, fm, sb, *]) | ((first | refine LCB.cond (by simp only [seval, evo] <;> rfl) ?_ ?_ | refine wpG_split (by simp only [seval, evo] <;> rfl) ?_ ?_ | refine wqG_split (by simp only [seval, evo] <;> rfl) ?_ ?_) <;> (intro hc; try simp only [seval, nf] at hc)) | refine ACalls.inst ?_ | refine CallP.inst rfl ?_)
      refine (num_deeds_ok _).mono ?_
      rintro r H' ⟨rfl, rfl⟩
      rw [deedE_eq]
      repeat' (first | simp only [seval, evo, beq_self_eq_true, sb, *] | simp (disch := omega) only [if_pos, if_neg] | refine R.seq ?_ | refine LCB.text ?_ | refine LCB.quiet rfl ?_ | refine R.calls rfl ?_ | refine R.block ?_ | refine LCB.skip ?_ | refine LCB.exit ?_ | refine LCB.ret ?_ | ((first | refine RetOk.val hcl ?_ | refine Weak.at hcl ?_); simp only [seval, evw, fm, sb, *]) | ((first | refine LCB.cond (by simp only [seval, evo] <;> rfl) ?_ ?_ | refine wpG_split (by simp only [seval, evo] <;> rfl) ?_ ?_ | refine wqG_split (by simp only [seval, evo] <;> rfl) ?_ ?_) <;> (intro hc; try simp only [seval, nf] at hc)) | refine ACalls.inst ?_ | refine CallP.inst rfl ?_)
      first | refine ACalls.pure (h1.of) ?_ | refine CallP.pure (h1.of) rfl ?_ | refine CallX.pure (h1.of) ?_
      repeat' (first | simp only [seval, evo, beq_self_eq_true, sb, *] | simp (disch := omega) only [if_pos, if_neg] | refine R.seq ?_ | refine LCB.text ?_ | refine LCB.quiet rfl ?_ | refine R.calls rfl ?_ | refine R.block ?_ | refine LCB.skip ?_ | refine LCB.exit ?_ | refine LCB.ret ?_ | ((first | refine RetOk.val hcl ?_ | refine Weak.at hcl ?_); simp only [seval, evw, fm, sb, *]) | ((first | refine LCB.cond (by simp only [seval, evo] <;> rfl) ?_ ?_ | refine wpG_split (by simp only [seval, evo] <;> rfl) ?_ ?_ | refine wqG_split (by simp only [seval, evo] <;> rfl) ?_ ?_) <;> (intro hc; try simp only [seval, nf] at hc)) | refine ACalls.inst ?_ | refine CallP.inst rfl ?_)
  by_cases o8 : op = 8
  · subst o8
    have hr : numDo 8 a b = (bits .and .i64 a b, 0) := by simp [numDo]
    rw [hr]
    have h1 := Hold.mk (num_deed5_ok a b)
    repeat' (first | simp only [seval, evo, beq_self_eq_true, sb, *] | simp (disch := omega) only [if_pos, if_neg] | refine R.seq ?_ | refine LCB.text ?_ | refine LCB.quiet rfl ?_ | refine R.calls rfl ?_ | refine R.block ?_ | refine LCB.skip ?_ | refine LCB.exit ?_ | refine LCB.ret ?_ | ((first | refine RetOk.val hcl ?_ | refine Weak.at hcl ?_); simp only [seval, evw, fm, sb, *]) | ((first | refine LCB.cond (by simp only [seval, evo] <;> rfl) ?_ ?_ | refine wpG_split (by simp only [seval, evo] <;> rfl) ?_ ?_ | refine wqG_split (by simp only [seval, evo] <;> rfl) ?_ ?_) <;> (intro hc; try simp only [seval, nf] at hc)) | refine ACalls.inst ?_ | refine CallP.inst rfl ?_)
    refine (num_deeds_ok _).mono ?_
    rintro r H' ⟨rfl, rfl⟩
    rw [deedE_eq]
    repeat' (first | simp only [seval, evo, beq_self_eq_true, sb, *] | simp (disch := omega) only [if_pos, if_neg] | refine R.seq ?_ | refine LCB.text ?_ | refine LCB.quiet rfl ?_ | refine R.calls rfl ?_ | refine R.block ?_ | refine LCB.skip ?_ | refine LCB.exit ?_ | refine LCB.ret ?_ | ((first | refine RetOk.val hcl ?_ | refine Weak.at hcl ?_); simp only [seval, evw, fm, sb, *]) | ((first | refine LCB.cond (by simp only [seval, evo] <;> rfl) ?_ ?_ | refine wpG_split (by simp only [seval, evo] <;> rfl) ?_ ?_ | refine wqG_split (by simp only [seval, evo] <;> rfl) ?_ ?_) <;> (intro hc; try simp only [seval, nf] at hc)) | refine ACalls.inst ?_ | refine CallP.inst rfl ?_)
    first | refine ACalls.pure (h1.of) ?_ | refine CallP.pure (h1.of) rfl ?_ | refine CallX.pure (h1.of) ?_
    repeat' (first | simp only [seval, evo, beq_self_eq_true, sb, *] | simp (disch := omega) only [if_pos, if_neg] | refine R.seq ?_ | refine LCB.text ?_ | refine LCB.quiet rfl ?_ | refine R.calls rfl ?_ | refine R.block ?_ | refine LCB.skip ?_ | refine LCB.exit ?_ | refine LCB.ret ?_ | ((first | refine RetOk.val hcl ?_ | refine Weak.at hcl ?_); simp only [seval, evw, fm, sb, *]) | ((first | refine LCB.cond (by simp only [seval, evo] <;> rfl) ?_ ?_ | refine wpG_split (by simp only [seval, evo] <;> rfl) ?_ ?_ | refine wqG_split (by simp only [seval, evo] <;> rfl) ?_ ?_) <;> (intro hc; try simp only [seval, nf] at hc)) | refine ACalls.inst ?_ | refine CallP.inst rfl ?_)
  by_cases o9 : op = 9
  · subst o9
    have hr : numDo 9 a b = (bits .or .i64 a b, 0) := by simp [numDo]
    rw [hr]
    have h1 := Hold.mk (num_deed6_ok a b)
    repeat' (first | simp only [seval, evo, beq_self_eq_true, sb, *] | simp (disch := omega) only [if_pos, if_neg] | refine R.seq ?_ | refine LCB.text ?_ | refine LCB.quiet rfl ?_ | refine R.calls rfl ?_ | refine R.block ?_ | refine LCB.skip ?_ | refine LCB.exit ?_ | refine LCB.ret ?_ | ((first | refine RetOk.val hcl ?_ | refine Weak.at hcl ?_); simp only [seval, evw, fm, sb, *]) | ((first | refine LCB.cond (by simp only [seval, evo] <;> rfl) ?_ ?_ | refine wpG_split (by simp only [seval, evo] <;> rfl) ?_ ?_ | refine wqG_split (by simp only [seval, evo] <;> rfl) ?_ ?_) <;> (intro hc; try simp only [seval, nf] at hc)) | refine ACalls.inst ?_ | refine CallP.inst rfl ?_)
    refine (num_deeds_ok _).mono ?_
    rintro r H' ⟨rfl, rfl⟩
    rw [deedE_eq]
    repeat' (first | simp only [seval, evo, beq_self_eq_true, sb, *] | simp (disch := omega) only [if_pos, if_neg] | refine R.seq ?_ | refine LCB.text ?_ | refine LCB.quiet rfl ?_ | refine R.calls rfl ?_ | refine R.block ?_ | refine LCB.skip ?_ | refine LCB.exit ?_ | refine LCB.ret ?_ | ((first | refine RetOk.val hcl ?_ | refine Weak.at hcl ?_); simp only [seval, evw, fm, sb, *]) | ((first | refine LCB.cond (by simp only [seval, evo] <;> rfl) ?_ ?_ | refine wpG_split (by simp only [seval, evo] <;> rfl) ?_ ?_ | refine wqG_split (by simp only [seval, evo] <;> rfl) ?_ ?_) <;> (intro hc; try simp only [seval, nf] at hc)) | refine ACalls.inst ?_ | refine CallP.inst rfl ?_)
    first | refine ACalls.pure (h1.of) ?_ | refine CallP.pure (h1.of) rfl ?_ | refine CallX.pure (h1.of) ?_
    repeat' (first | simp only [seval, evo, beq_self_eq_true, sb, *] | simp (disch := omega) only [if_pos, if_neg] | refine R.seq ?_ | refine LCB.text ?_ | refine LCB.quiet rfl ?_ | refine R.calls rfl ?_ | refine R.block ?_ | refine LCB.skip ?_ | refine LCB.exit ?_ | refine LCB.ret ?_ | ((first | refine RetOk.val hcl ?_ | refine Weak.at hcl ?_); simp only [seval, evw, fm, sb, *]) | ((first | refine LCB.cond (by simp only [seval, evo] <;> rfl) ?_ ?_ | refine wpG_split (by simp only [seval, evo] <;> rfl) ?_ ?_ | refine wqG_split (by simp only [seval, evo] <;> rfl) ?_ ?_) <;> (intro hc; try simp only [seval, nf] at hc)) | refine ACalls.inst ?_ | refine CallP.inst rfl ?_)
  by_cases o10 : op = 10
  · subst o10
    have hr : numDo 10 a b = (bits .xor .i64 a b, 0) := by simp [numDo]
    rw [hr]
    have h1 := Hold.mk (num_deed7_ok a b)
    repeat' (first | simp only [seval, evo, beq_self_eq_true, sb, *] | simp (disch := omega) only [if_pos, if_neg] | refine R.seq ?_ | refine LCB.text ?_ | refine LCB.quiet rfl ?_ | refine R.calls rfl ?_ | refine R.block ?_ | refine LCB.skip ?_ | refine LCB.exit ?_ | refine LCB.ret ?_ | ((first | refine RetOk.val hcl ?_ | refine Weak.at hcl ?_); simp only [seval, evw, fm, sb, *]) | ((first | refine LCB.cond (by simp only [seval, evo] <;> rfl) ?_ ?_ | refine wpG_split (by simp only [seval, evo] <;> rfl) ?_ ?_ | refine wqG_split (by simp only [seval, evo] <;> rfl) ?_ ?_) <;> (intro hc; try simp only [seval, nf] at hc)) | refine ACalls.inst ?_ | refine CallP.inst rfl ?_)
    refine (num_deeds_ok _).mono ?_
    rintro r H' ⟨rfl, rfl⟩
    rw [deedE_eq]
    repeat' (first | simp only [seval, evo, beq_self_eq_true, sb, *] | simp (disch := omega) only [if_pos, if_neg] | refine R.seq ?_ | refine LCB.text ?_ | refine LCB.quiet rfl ?_ | refine R.calls rfl ?_ | refine R.block ?_ | refine LCB.skip ?_ | refine LCB.exit ?_ | refine LCB.ret ?_ | ((first | refine RetOk.val hcl ?_ | refine Weak.at hcl ?_); simp only [seval, evw, fm, sb, *]) | ((first | refine LCB.cond (by simp only [seval, evo] <;> rfl) ?_ ?_ | refine wpG_split (by simp only [seval, evo] <;> rfl) ?_ ?_ | refine wqG_split (by simp only [seval, evo] <;> rfl) ?_ ?_) <;> (intro hc; try simp only [seval, nf] at hc)) | refine ACalls.inst ?_ | refine CallP.inst rfl ?_)
    first | refine ACalls.pure (h1.of) ?_ | refine CallP.pure (h1.of) rfl ?_ | refine CallX.pure (h1.of) ?_
    repeat' (first | simp only [seval, evo, beq_self_eq_true, sb, *] | simp (disch := omega) only [if_pos, if_neg] | refine R.seq ?_ | refine LCB.text ?_ | refine LCB.quiet rfl ?_ | refine R.calls rfl ?_ | refine R.block ?_ | refine LCB.skip ?_ | refine LCB.exit ?_ | refine LCB.ret ?_ | ((first | refine RetOk.val hcl ?_ | refine Weak.at hcl ?_); simp only [seval, evw, fm, sb, *]) | ((first | refine LCB.cond (by simp only [seval, evo] <;> rfl) ?_ ?_ | refine wpG_split (by simp only [seval, evo] <;> rfl) ?_ ?_ | refine wqG_split (by simp only [seval, evo] <;> rfl) ?_ ?_) <;> (intro hc; try simp only [seval, nf] at hc)) | refine ACalls.inst ?_ | refine CallP.inst rfl ?_)
  by_cases o11 : op = 11
  · subst o11
    have hr : numDo 11 a b = (flagI (decide (a < b)), 0) := by simp [numDo]
    rw [hr]
    have h1 := Hold.mk (num_deed8_ok a b)
    repeat' (first | simp only [seval, evo, beq_self_eq_true, sb, *] | simp (disch := omega) only [if_pos, if_neg] | refine R.seq ?_ | refine LCB.text ?_ | refine LCB.quiet rfl ?_ | refine R.calls rfl ?_ | refine R.block ?_ | refine LCB.skip ?_ | refine LCB.exit ?_ | refine LCB.ret ?_ | ((first | refine RetOk.val hcl ?_ | refine Weak.at hcl ?_); simp only [seval, evw, fm, sb, *]) | ((first | refine LCB.cond (by simp only [seval, evo] <;> rfl) ?_ ?_ | refine wpG_split (by simp only [seval, evo] <;> rfl) ?_ ?_ | refine wqG_split (by simp only [seval, evo] <;> rfl) ?_ ?_) <;> (intro hc; try simp only [seval, nf] at hc)) | refine ACalls.inst ?_ | refine CallP.inst rfl ?_)
    refine (num_deeds_ok _).mono ?_
    rintro r H' ⟨rfl, rfl⟩
    rw [deedE_eq]
    repeat' (first | simp only [seval, evo, beq_self_eq_true, sb, *] | simp (disch := omega) only [if_pos, if_neg] | refine R.seq ?_ | refine LCB.text ?_ | refine LCB.quiet rfl ?_ | refine R.calls rfl ?_ | refine R.block ?_ | refine LCB.skip ?_ | refine LCB.exit ?_ | refine LCB.ret ?_ | ((first | refine RetOk.val hcl ?_ | refine Weak.at hcl ?_); simp only [seval, evw, fm, sb, *]) | ((first | refine LCB.cond (by simp only [seval, evo] <;> rfl) ?_ ?_ | refine wpG_split (by simp only [seval, evo] <;> rfl) ?_ ?_ | refine wqG_split (by simp only [seval, evo] <;> rfl) ?_ ?_) <;> (intro hc; try simp only [seval, nf] at hc)) | refine ACalls.inst ?_ | refine CallP.inst rfl ?_)
    first | refine ACalls.pure (h1.of) ?_ | refine CallP.pure (h1.of) rfl ?_ | refine CallX.pure (h1.of) ?_
    repeat' (first | simp only [seval, evo, beq_self_eq_true, sb, *] | simp (disch := omega) only [if_pos, if_neg] | refine R.seq ?_ | refine LCB.text ?_ | refine LCB.quiet rfl ?_ | refine R.calls rfl ?_ | refine R.block ?_ | refine LCB.skip ?_ | refine LCB.exit ?_ | refine LCB.ret ?_ | ((first | refine RetOk.val hcl ?_ | refine Weak.at hcl ?_); simp only [seval, evw, fm, sb, *]) | ((first | refine LCB.cond (by simp only [seval, evo] <;> rfl) ?_ ?_ | refine wpG_split (by simp only [seval, evo] <;> rfl) ?_ ?_ | refine wqG_split (by simp only [seval, evo] <;> rfl) ?_ ?_) <;> (intro hc; try simp only [seval, nf] at hc)) | refine ACalls.inst ?_ | refine CallP.inst rfl ?_)
  by_cases o12 : op = 12
  · subst o12
    have hr : numDo 12 a b = (flagI (decide (a = b)), 0) := by simp [numDo]
    rw [hr]
    have h1 := Hold.mk (num_deed9_ok a b)
    repeat' (first | simp only [seval, evo, beq_self_eq_true, sb, *] | simp (disch := omega) only [if_pos, if_neg] | refine R.seq ?_ | refine LCB.text ?_ | refine LCB.quiet rfl ?_ | refine R.calls rfl ?_ | refine R.block ?_ | refine LCB.skip ?_ | refine LCB.exit ?_ | refine LCB.ret ?_ | ((first | refine RetOk.val hcl ?_ | refine Weak.at hcl ?_); simp only [seval, evw, fm, sb, *]) | ((first | refine LCB.cond (by simp only [seval, evo] <;> rfl) ?_ ?_ | refine wpG_split (by simp only [seval, evo] <;> rfl) ?_ ?_ | refine wqG_split (by simp only [seval, evo] <;> rfl) ?_ ?_) <;> (intro hc; try simp only [seval, nf] at hc)) | refine ACalls.inst ?_ | refine CallP.inst rfl ?_)
    refine (num_deeds_ok _).mono ?_
    rintro r H' ⟨rfl, rfl⟩
    rw [deedE_eq]
    repeat' (first | simp only [seval, evo, beq_self_eq_true, sb, *] | simp (disch := omega) only [if_pos, if_neg] | refine R.seq ?_ | refine LCB.text ?_ | refine LCB.quiet rfl ?_ | refine R.calls rfl ?_ | refine R.block ?_ | refine LCB.skip ?_ | refine LCB.exit ?_ | refine LCB.ret ?_ | ((first | refine RetOk.val hcl ?_ | refine Weak.at hcl ?_); simp only [seval, evw, fm, sb, *]) | ((first | refine LCB.cond (by simp only [seval, evo] <;> rfl) ?_ ?_ | refine wpG_split (by simp only [seval, evo] <;> rfl) ?_ ?_ | refine wqG_split (by simp only [seval, evo] <;> rfl) ?_ ?_) <;> (intro hc; try simp only [seval, nf] at hc)) | refine ACalls.inst ?_ | refine CallP.inst rfl ?_)
    first | refine ACalls.pure (h1.of) ?_ | refine CallP.pure (h1.of) rfl ?_ | refine CallX.pure (h1.of) ?_
    repeat' (first | simp only [seval, evo, beq_self_eq_true, sb, *] | simp (disch := omega) only [if_pos, if_neg] | refine R.seq ?_ | refine LCB.text ?_ | refine LCB.quiet rfl ?_ | refine R.calls rfl ?_ | refine R.block ?_ | refine LCB.skip ?_ | refine LCB.exit ?_ | refine LCB.ret ?_ | ((first | refine RetOk.val hcl ?_ | refine Weak.at hcl ?_); simp only [seval, evw, fm, sb, *]) | ((first | refine LCB.cond (by simp only [seval, evo] <;> rfl) ?_ ?_ | refine wpG_split (by simp only [seval, evo] <;> rfl) ?_ ?_ | refine wqG_split (by simp only [seval, evo] <;> rfl) ?_ ?_) <;> (intro hc; try simp only [seval, nf] at hc)) | refine ACalls.inst ?_ | refine CallP.inst rfl ?_)
  have hr : numDo op a b = (0, 2) := by simp [numDo, o4, o5, o6, o7, o8, o9, o10, o11, o12]
  rw [hr]
  repeat' (first | simp only [seval, evo, beq_self_eq_true, sb, *] | simp (disch := omega) only [if_pos, if_neg] | refine R.seq ?_ | refine LCB.text ?_ | refine LCB.quiet rfl ?_ | refine R.calls rfl ?_ | refine R.block ?_ | refine LCB.skip ?_ | refine LCB.exit ?_ | refine LCB.ret ?_ | ((first | refine RetOk.val hcl ?_ | refine Weak.at hcl ?_); simp only [seval, evw, fm, sb, *]) | ((first | refine LCB.cond (by simp only [seval, evo] <;> rfl) ?_ ?_ | refine wpG_split (by simp only [seval, evo] <;> rfl) ?_ ?_ | refine wqG_split (by simp only [seval, evo] <;> rfl) ?_ ?_) <;> (intro hc; try simp only [seval, nf] at hc)) | refine ACalls.inst ?_ | refine CallP.inst rfl ?_)
  refine (num_deeds_ok _).mono ?_
  rintro r H' ⟨rfl, rfl⟩
  rw [deedE_eq]
  repeat' (first | simp only [seval, evo, beq_self_eq_true, sb, *] | simp (disch := omega) only [if_pos, if_neg] | refine R.seq ?_ | refine LCB.text ?_ | refine LCB.quiet rfl ?_ | refine R.calls rfl ?_ | refine R.block ?_ | refine LCB.skip ?_ | refine LCB.exit ?_ | refine LCB.ret ?_ | ((first | refine RetOk.val hcl ?_ | refine Weak.at hcl ?_); simp only [seval, evw, fm, sb, *]) | ((first | refine LCB.cond (by simp only [seval, evo] <;> rfl) ?_ ?_ | refine wpG_split (by simp only [seval, evo] <;> rfl) ?_ ?_ | refine wqG_split (by simp only [seval, evo] <;> rfl) ?_ ?_) <;> (intro hc; try simp only [seval, nf] at hc)) | refine ACalls.inst ?_ | refine CallP.inst rfl ?_)
end Go.Proofs.YtphmakopjfbmnaaDoor
namespace Go.Proofs.YtphmakopjfbmnaaDoor
open Go.RowKit
set_option linter.unusedVariables false
set_option linter.unusedSimpArgs false
theorem LoseH.set {H L M : List AObj} {k z : Nat} {row row' : List AV} (hk : k < H.length)
    (h : LoseL (H.set k (.vec z [row]) ++ L) (H.set k (.vec z [row']) ++ M) L M ∧ row'.length = z ∧ Loses (H.set k (.vec z [row]) ++ L) (H.set k (.vec z [row']) ++ M) row row') : LoseH (H.set k (.vec z [row]) ++ L) (H.set k (.vec z [row']) ++ M) := by
  obtain ⟨h0, h3, h4⟩ := h
  obtain ⟨h1, h2⟩ := h0.spec
  refine ⟨by simp [h1], fun j o p g1 g2 => ?_⟩
  rcases Nat.lt_or_ge j H.length with hj | hj
  · rw [List.getElem?_append_left (by simpa using hj)] at g1 g2
    rw [List.getElem?_set] at g1 g2
    by_cases e : k = j
    · subst e
      simp only [hj, if_true, Option.some.injEq] at g1 g2
      subst g1; subst g2
      have := lo_row (H := H.set k (.vec z [row]) ++ L) (G := H.set k (.vec z [row']) ++ M) (z := z) (r := row) (s := row') ⟨h3, h4⟩
      rw [this]; trivial
    · rw [if_neg e] at g1 g2
      rw [g1] at g2
      cases g2
      exact .inl rfl
  · rw [List.getElem?_append_right (by simpa using hj)] at g1 g2
    simp only [List.length_set] at g1 g2
    exact h2 _ o p g1 g2
def wrow (s : St) (x : Ins) (ask : List Int) (ev : AV) (how value : Int) : List AV :=
  wc s.L ++ [.list (s.heap.map encI), .int .i64 s.pc, .int .i64 s.asked, .int .i64 x.op, .int .i64 x.d, .int .i64 x.a, .int .i64 x.b, .int .i64 x.n, .int .i64 x.to, .list (ask.map encI), ev, .int .i64 how, .int .i64 value]
theorem wrow_eq {s : St} {x : Ins} {ask : List Int} {ev : AV} {how value : Int} : wrow s x ask ev how value = wc s.L ++ [.list (s.heap.map encI), .int .i64 s.pc, .int .i64 s.asked, .int .i64 x.op, .int .i64 x.d, .int .i64 x.a, .int .i64 x.b, .int .i64 x.n, .int .i64 x.to, .list (ask.map encI), ev, .int .i64 how, .int .i64 value] := rfl
section
variable {H : List AObj} {k : Nat} (hk : k < H.length)
include hk
theorem ob_get (o : AObj) (L : List AObj) : (H.set k o ++ L)[k]? = some o := by rw [List.getElem?_append_left (by simpa using hk), set_get hk]
theorem ob_set (o p : AObj) (L : List AObj) : (H.set k o ++ L).set k p = H.set k p ++ L := by rw [List.set_append, if_pos (by simpa using hk), set_set]
end
theorem work_number_ok {H : List AObj} {k : Nat} {L : List W} {r : List AV} (hk : k < H.length) (hx : H[k]? = some (.vec 61 [wc L ++ r])) (hL : L.length = 24) (i : Nat) (hi : i < 24) :
    ACalls Tryd.prog 56 [.ptr k 1 0 0, .int .i64 (i : Int)] H fun r' H' => r' = .int .i64 (L.getD i noW).v ∧ H' = H := by
  refine ACalls.go step_work_number.low (by simp) fun hcl => ?_
  have g1 : ∀ M : List AObj, (H ++ M)[k]? = some (.vec 61 [wc L ++ r]) := fun M => by rw [in_get hk, hx]
  have hg := wr_v (L := L) (r := r) (i := i) (by omega)
  have e1 : (i : Int) < 24 := by omega
  clear hx
  generalize (L.getD i noW).v = v at *
  repeat' (first | simp only [seval, evx, beq_self_eq_true, sb, ew, insA, encIns, ins_dec, ins_eta, wrow_eq, evs_eq, encEv_def, List.map_cons, List.map_nil, *] | simp (disch := omega) only [if_pos, if_neg] | refine R.seq ?_ | refine LCB.text ?_ | refine LCB.quiet rfl ?_ | refine R.anyX ?_ | refine R.block ?_ | refine LCB.skip ?_ | refine LCB.exit ?_ | refine LCB.ret ?_ | ((first | refine RetOk.val hcl ?_ | refine Weak.at hcl ?_); simp only [seval, evw, fm, sb, ew, insA, encIns, ins_dec, ins_eta, wrow_eq, evs_eq, encEv_def, List.map_cons, List.map_nil, *]) | ((first | refine LCB.cond (by simp only [seval, evx] <;> rfl) ?_ ?_ | refine wpG_split (by simp only [seval, evx] <;> rfl) ?_ ?_ | refine wxG_split (by simp only [seval, evx] <;> rfl) ?_ ?_) <;> (intro hc; try simp only [seval, nf] at hc)) | refine ACalls.inst ?_ | refine CallX.inst ?_ | (with_reducible refine And.intro ?_ ?_) | exact True.intro)
def setS (s : St) (d : Nat) (v how : Int) : St := if how = 0 then { s with L := s.L.set d ⟨true, v⟩ } else s
theorem work_set_ok {H : List AObj} {k : Nat} {s : St} {x : Ins} {ask : List Int} {ev : AV} {h0 value : Int} (v how : Int) (d : Nat) (hd : x.d = (d : Int)) (hd2 : d < 24) (hk : k < H.length) (hx : H[k]? = some (.vec 61 [wrow s x ask ev h0 value])) (hL : s.L.length = 24) (hev : ev.clean H.length = true) (hcev : ev.cell = true) :
    ACalls Tryd.prog 57 [.ptr k 1 0 0, .int .i64 v, .int .i64 how] H fun r' H' => r' = .tup [] ∧ H' = H.set k (.vec 61 [wrow (setS s d v how) x ask ev how value]) := by
  refine ACalls.go step_work_set.low (by simp) fun hcl => ?_
  have hwl : (wc s.L).length = 48 := by rw [wc_len, hL]
  have g1 : ∀ M : List AObj, (H ++ M)[k]? = some (.vec 61 [wrow s x ask ev h0 value]) := fun M => by rw [in_get hk, hx]
  have g2 : ∀ (M : List AObj) (o : AObj), (H ++ M).set k o = H.set k o ++ M := fun M o => in_set hk
  have g3 := ob_get hk
  have g4 := ob_set hk
  have g5 : ∀ o : AObj, H.length ≤ (H.set k o).length := fun o => by simp
  have hput := wr_put2 (L := s.L) (i := d) (r := [.list (s.heap.map encI), .int .i64 s.pc, .int .i64 s.asked, .int .i64 x.op, .int .i64 (d : Int), .int .i64 x.a, .int .i64 x.b, .int .i64 x.n, .int .i64 x.to, .list (ask.map encI), ev, .int .i64 how, .int .i64 value]) ⟨true, v⟩ (by omega)
  have hwl2 : (wc (s.L.set d ⟨true, v⟩)).length = 48 := by rw [wc_len, List.length_set, hL]
  have e1 : (d : Int) < 24 := by omega
  have e2 : d * 2 + 2 ≤ 61 := by omega
  clear hx
  obtain ⟨op, xd, xa, xb, xn, xto⟩ := x
  simp only at hd
  subst hd
  by_cases hh : how = 0
  · subst hh
    have hs : setS s d v 0 = { s with L := s.L.set d ⟨true, v⟩ } := by simp [setS]
    rw [hs]
    replace hs := Hold.mk hs
    replace hL := Hold.mk hL
    replace hev := Hold.mk hev
    repeat' (first | simp only [seval, evx, beq_self_eq_true, sb, ew, insA, encIns, ins_dec, ins_eta, wrow_eq, evs_eq, encEv_def, List.map_cons, List.map_nil, *] | simp (disch := omega) only [if_pos, if_neg] | refine R.seq ?_ | refine LCB.text ?_ | refine LCB.quiet rfl ?_ | refine R.anyX ?_ | refine R.block ?_ | refine LCB.skip ?_ | refine LCB.exit ?_ | refine LCB.ret ?_ | ((first | refine RetOk.val hcl ?_ | refine Weak.at hcl ?_); simp only [seval, evw, fm, sb, ew, insA, encIns, ins_dec, ins_eta, wrow_eq, evs_eq, encEv_def, List.map_cons, List.map_nil, *]) | ((first | refine LCB.cond (by simp only [seval, evx] <;> rfl) ?_ ?_ | refine wpG_split (by simp only [seval, evx] <;> rfl) ?_ ?_ | refine wxG_split (by simp only [seval, evx] <;> rfl) ?_ ?_) <;> (intro hc; try simp only [seval, nf] at hc)) | refine ACalls.inst ?_ | refine CallX.inst ?_ | (with_reducible refine And.intro ?_ ?_) | exact True.intro)
    (refine RetOk.upd (.tup []) (g5 _) (by rw [List.length_set]; exact hcl.set (vec_clean (by simp [cl_wc, cleanAll, AV.clean, hev.of]))) ?_ ⟨rfl, rfl⟩; exact .same _ rfl)
  · have hs : setS s d v how = s := by simp [setS, hh]
    rw [hs]
    replace hs := Hold.mk hs
    replace hL := Hold.mk hL
    replace hev := Hold.mk hev
    repeat' (first | simp only [seval, evx, beq_self_eq_true, sb, ew, insA, encIns, ins_dec, ins_eta, wrow_eq, evs_eq, encEv_def, List.map_cons, List.map_nil, *] | simp (disch := omega) only [if_pos, if_neg] | refine R.seq ?_ | refine LCB.text ?_ | refine LCB.quiet rfl ?_ | refine R.anyX ?_ | refine R.block ?_ | refine LCB.skip ?_ | refine LCB.exit ?_ | refine LCB.ret ?_ | ((first | refine RetOk.val hcl ?_ | refine Weak.at hcl ?_); simp only [seval, evw, fm, sb, ew, insA, encIns, ins_dec, ins_eta, wrow_eq, evs_eq, encEv_def, List.map_cons, List.map_nil, *]) | ((first | refine LCB.cond (by simp only [seval, evx] <;> rfl) ?_ ?_ | refine wpG_split (by simp only [seval, evx] <;> rfl) ?_ ?_ | refine wxG_split (by simp only [seval, evx] <;> rfl) ?_ ?_) <;> (intro hc; try simp only [seval, nf] at hc)) | refine ACalls.inst ?_ | refine CallX.inst ?_ | (with_reducible refine And.intro ?_ ?_) | exact True.intro)
    (refine RetOk.upd (.tup []) (g5 _) (by rw [List.length_set]; exact hcl.set (vec_clean (by simp [cl_wc, cleanAll, AV.clean, hev.of]))) ?_ ⟨rfl, rfl⟩; exact .same _ rfl)
def callS (s : St) (d : Nat) (v : Int) : St := { s with L := s.L.set d ⟨true, v⟩, asked := s.asked + 1 }
set_option maxHeartbeats 1000000 in
theorem work_call_ok {H : List AObj} {k : Nat} {s : St} {x : Ins} {ask : List Int} {value : Int} (arg : Int) (d : Nat) (hd : x.d = (d : Int)) (hd2 : d < 24) (hk : k < H.length) (hx : H[k]? = some (.vec 61 [wrow s x ask (.list []) 0 value])) (hL : s.L.length = 24) (h0 : 0 ≤ s.asked) (hask : (ask.length : Int) ≤ 9223372036854775807) :
    ACalls Tryd.prog 60 [.ptr k 1 0 0, .int .i64 arg] H fun r' H' => r' = .tup [] ∧ H' = if s.asked < (ask.length : Int) then H.set k (.vec 61 [wrow (callS s d (ask.getD s.asked.toNat 0)) x ask (evs [⟨x.n, arg, ask.getD s.asked.toNat 0⟩]) 0 value]) else H.set k (.vec 61 [wrow s x ask (.list []) 5 value]) := by
  refine ACalls.go step_work_call.low (by simp) fun hcl => ?_
  have hwl : (wc s.L).length = 48 := by rw [wc_len, hL]
  have g1 : ∀ M : List AObj, (H ++ M)[k]? = some (.vec 61 [wrow s x ask (.list []) 0 value]) := fun M => by rw [in_get hk, hx]
  have g2 : ∀ (M : List AObj) (o : AObj), (H ++ M).set k o = H.set k o ++ M := fun M o => in_set hk
  have g3 := ob_get hk
  have g4 := ob_set hk
  have g5 : ∀ o : AObj, H.length ≤ (H.set k o).length := fun o => by simp
  have g6 : ∀ (o : AObj) (M : List AObj), (H.set k o ++ M)[H.length]? = M[0]? := fun o M => by rw [List.getElem?_append_right (by simp)]; simp
  have hev : Hold (True) := ⟨trivial⟩
  clear hx
  obtain ⟨op, xd, xa, xb, xn, xto⟩ := x
  simp only at hd
  subst hd
  by_cases hlt : s.asked < (ask.length : Int)
  · rw [show (fun (r' : AV) (H' : List AObj) => r' = AV.tup [] ∧ H' = if s.asked < (ask.length : Int) then H.set k (.vec 61 [wrow (callS s d (ask.getD s.asked.toNat 0)) ⟨op, (d : Int), xa, xb, xn, xto⟩ ask (evs [⟨xn, arg, ask.getD s.asked.toNat 0⟩]) 0 value]) else H.set k (.vec 61 [wrow s ⟨op, (d : Int), xa, xb, xn, xto⟩ ask (.list []) 5 value])) = fun r' H' => r' = AV.tup [] ∧ H' = H.set k (.vec 61 [wrow (callS s d (ask.getD s.asked.toNat 0)) ⟨op, (d : Int), xa, xb, xn, xto⟩ ask (evs [⟨xn, arg, ask.getD s.asked.toNat 0⟩]) 0 value]) from by funext r' H'; rw [if_pos hlt]]
    obtain ⟨n, hn⟩ := Int.eq_ofNat_of_zero_le h0
    obtain ⟨L, heap, pc, asked⟩ := s
    simp only at hn hL hwl hlt h0
    subst hn
    have hnl : n < ask.length := by omega
    have e1 : ¬ (ask.length : Int) ≤ (n : Int) := by omega
    have e2 : IntKind.i64.wrap ((n : Int) + 1) = ((n + 1 : Nat) : Int) := by rw [IntKind.wrap_i64]; omega
    have e3 : ((n : Int) + 1) = ((n + 1 : Nat) : Int) := by omega
    have hg := getD_encI hnl
    have hcS : callS ⟨L, heap, pc, (n : Int)⟩ d (ask.getD n 0) = ⟨L.set d ⟨true, ask.getD n 0⟩, heap, pc, ((n + 1 : Nat) : Int)⟩ := by simp [callS]
    have htn : ((n : Int)).toNat = n := by simp
    simp only [htn]
    rw [hcS]
    replace hcS := Hold.mk hcS
    replace e3 := Hold.mk e3
    replace htn := Hold.mk htn
    generalize ask.getD n 0 = v at *
    replace hL := Hold.mk hL
    clear hask h0
    repeat' (first | simp only [seval, evx, beq_self_eq_true, sb, ew, insA, encIns, ins_dec, ins_eta, wrow_eq, evs_eq, encEv_def, List.map_cons, List.map_nil, *] | simp (disch := omega) only [if_pos, if_neg] | refine R.seq ?_ | refine LCB.text ?_ | refine LCB.quiet rfl ?_ | refine R.anyX ?_ | refine R.block ?_ | refine LCB.skip ?_ | refine LCB.exit ?_ | refine LCB.ret ?_ | ((first | refine RetOk.val hcl ?_ | refine Weak.at hcl ?_); simp only [seval, evw, fm, sb, ew, insA, encIns, ins_dec, ins_eta, wrow_eq, evs_eq, encEv_def, List.map_cons, List.map_nil, *]) | ((first | refine LCB.cond (by simp only [seval, evx] <;> rfl) ?_ ?_ | refine wpG_split (by simp only [seval, evx] <;> rfl) ?_ ?_ | refine wxG_split (by simp only [seval, evx] <;> rfl) ?_ ?_) <;> (intro hc; try simp only [seval, nf] at hc)) | refine ACalls.inst ?_ | refine CallX.inst ?_ | (with_reducible refine And.intro ?_ ?_) | exact True.intro)
    refine ACalls.lose (G := H.set k (.vec 61 [wrow ⟨L, heap, pc, ((n + 1 : Nat) : Int)⟩ ⟨op, (d : Int), xa, xb, xn, xto⟩ ask (evs [⟨xn, arg, v⟩]) 0 value]) ++ [.gone]) (LoseH.set hk ⟨?_, ?_, ?_⟩) (Loses.refl _) ?_
    · simp only [seval, evw, lk, fm, sb, ew, insA, encIns, ins_dec, ins_eta, wrow_eq, evs_eq, encEv_def, List.map_cons, List.map_nil, *]
    · simp only [seval, evw, lk, fm, sb, ew, insA, encIns, ins_dec, ins_eta, wrow_eq, evs_eq, encEv_def, List.map_cons, List.map_nil, *]
    · simp only [seval, evw, lk, fm, sb, ew, insA, encIns, ins_dec, ins_eta, wrow_eq, evs_eq, encEv_def, List.map_cons, List.map_nil, *]
    refine (work_set_ok (s := ⟨L, heap, pc, ((n + 1 : Nat) : Int)⟩) (x := ⟨op, (d : Int), xa, xb, xn, xto⟩) v 0 d rfl hd2 (by simp; omega) (g3 _ _) hL.of rfl rfl).mono ?_
    rintro r' H' ⟨rfl, rfl⟩
    have hs : setS ⟨L, heap, pc, ((n + 1 : Nat) : Int)⟩ d v 0 = ⟨L.set d ⟨true, v⟩, heap, pc, ((n + 1 : Nat) : Int)⟩ := by simp [setS]
    rw [hs]
    replace hs := Hold.mk hs
    repeat' (first | simp only [seval, evx, beq_self_eq_true, sb, ew, insA, encIns, ins_dec, ins_eta, wrow_eq, evs_eq, encEv_def, List.map_cons, List.map_nil, *] | simp (disch := omega) only [if_pos, if_neg] | refine R.seq ?_ | refine LCB.text ?_ | refine LCB.quiet rfl ?_ | refine R.anyX ?_ | refine R.block ?_ | refine LCB.skip ?_ | refine LCB.exit ?_ | refine LCB.ret ?_ | ((first | refine RetOk.val hcl ?_ | refine Weak.at hcl ?_); simp only [seval, evw, fm, sb, ew, insA, encIns, ins_dec, ins_eta, wrow_eq, evs_eq, encEv_def, List.map_cons, List.map_nil, *]) | ((first | refine LCB.cond (by simp only [seval, evx] <;> rfl) ?_ ?_ | refine wpG_split (by simp only [seval, evx] <;> rfl) ?_ ?_ | refine wxG_split (by simp only [seval, evx] <;> rfl) ?_ ?_) <;> (intro hc; try simp only [seval, nf] at hc)) | refine ACalls.inst ?_ | refine CallX.inst ?_ | (with_reducible refine And.intro ?_ ?_) | exact True.intro)
    (refine RetOk.upd (.tup []) (g5 _) (by rw [List.length_set]; exact hcl.set (vec_clean (by simp [cl_wc, cleanAll, AV.clean, hev.of]))) ?_ ⟨rfl, rfl⟩; exact .same _ rfl)
  · rw [show (fun (r' : AV) (H' : List AObj) => r' = AV.tup [] ∧ H' = if s.asked < (ask.length : Int) then H.set k (.vec 61 [wrow (callS s d (ask.getD s.asked.toNat 0)) ⟨op, (d : Int), xa, xb, xn, xto⟩ ask (evs [⟨xn, arg, ask.getD s.asked.toNat 0⟩]) 0 value]) else H.set k (.vec 61 [wrow s ⟨op, (d : Int), xa, xb, xn, xto⟩ ask (.list []) 5 value])) = fun r' H' => r' = AV.tup [] ∧ H' = H.set k (.vec 61 [wrow s ⟨op, (d : Int), xa, xb, xn, xto⟩ ask (.list []) 5 value]) from by funext r' H'; rw [if_neg hlt]]
    have e1 : (ask.length : Int) ≤ s.asked := by omega
    replace hL := Hold.mk hL
    clear hask h0
    repeat' (first | simp only [seval, evx, beq_self_eq_true, sb, ew, insA, encIns, ins_dec, ins_eta, wrow_eq, evs_eq, encEv_def, List.map_cons, List.map_nil, *] | simp (disch := omega) only [if_pos, if_neg] | refine R.seq ?_ | refine LCB.text ?_ | refine LCB.quiet rfl ?_ | refine R.anyX ?_ | refine R.block ?_ | refine LCB.skip ?_ | refine LCB.exit ?_ | refine LCB.ret ?_ | ((first | refine RetOk.val hcl ?_ | refine Weak.at hcl ?_); simp only [seval, evw, fm, sb, ew, insA, encIns, ins_dec, ins_eta, wrow_eq, evs_eq, encEv_def, List.map_cons, List.map_nil, *]) | ((first | refine LCB.cond (by simp only [seval, evx] <;> rfl) ?_ ?_ | refine wpG_split (by simp only [seval, evx] <;> rfl) ?_ ?_ | refine wxG_split (by simp only [seval, evx] <;> rfl) ?_ ?_) <;> (intro hc; try simp only [seval, nf] at hc)) | refine ACalls.inst ?_ | refine CallX.inst ?_ | (with_reducible refine And.intro ?_ ?_) | exact True.intro)
    (refine RetOk.upd (.tup []) (g5 _) (by rw [List.length_set]; exact hcl.set (vec_clean (by simp [cl_wc, cleanAll, AV.clean, hev.of]))) ?_ ⟨rfl, rfl⟩; exact .same _ rfl)
def moveS (s : St) (x : Ins) : St :=
  if x.op = 1 then { s with L := s.L.set x.d.toNat ⟨true, x.n⟩ }
  else if x.op = 2 then { s with L := s.L.set x.d.toNat (s.L.getD x.a.toNat noW) }
  else if x.op = 3 then { s with L := (s.L.set x.d.toNat (s.L.getD x.a.toNat noW)).set x.a.toNat (s.L.getD x.d.toNat noW) }
  else s
set_option maxHeartbeats 2000000 in
theorem work_move_ok {H : List AObj} {k : Nat} {s : St} {x : Ins} {ask : List Int} {value how : Int} (d a : Nat) (hd : x.d = (d : Int)) (hd2 : d < 24) (ha : x.a = (a : Int)) (ha2 : a < 24) (hop : x.op = 1 ∨ x.op = 2 ∨ x.op = 3) (hk : k < H.length) (hx : H[k]? = some (.vec 61 [wrow s x ask (.list []) how value])) (hL : s.L.length = 24) :
    ACalls Tryd.prog 62 [.ptr k 1 0 0] H fun r' H' => r' = .tup [] ∧ H' = H.set k (.vec 61 [wrow (moveS s x) x ask (.list []) how value]) := by
  refine ACalls.go step_work_move.low (by simp) fun hcl => ?_
  have hwl : (wc s.L).length = 48 := by rw [wc_len, hL]
  have g1 : ∀ M : List AObj, (H ++ M)[k]? = some (.vec 61 [wrow s x ask (.list []) how value]) := fun M => by rw [in_get hk, hx]
  have g2 : ∀ (M : List AObj) (o : AObj), (H ++ M).set k o = H.set k o ++ M := fun M o => in_set hk
  have g3 := ob_get hk
  have g4 := ob_set hk
  have g5 : ∀ o : AObj, H.length ≤ (H.set k o).length := fun o => by simp
  have hev : Hold (True) := ⟨trivial⟩
  clear hx
  obtain ⟨op, xd, xa, xb, xn, xto⟩ := x
  simp only at hd ha
  subst hd
  subst ha
  have e1 : (d : Int) < 24 := by omega
  have e2 : d * 2 + 2 ≤ 61 := by omega
  have e3 : (a : Int) < 24 := by omega
  have e4 : a * 2 + 2 ≤ 61 := by omega
  have e5 : d * 2 + 2 ≤ 48 + 13 := by omega
  have e6 : a * 2 + 2 ≤ 48 + 13 := by omega
  obtain ⟨L, heap, pc, asked⟩ := s
  simp only at hL hwl
  have hset : ∀ w : W, (wc (L.set d w)).length = 48 := fun w => by rw [wc_len, List.length_set, hL]
  by_cases o1 : op = 1
  · subst o1
    have hm : moveS ⟨L, heap, pc, asked⟩ ⟨1, (d : Int), (a : Int), xb, xn, xto⟩ = ⟨L.set d ⟨true, xn⟩, heap, pc, asked⟩ := by simp [moveS]
    rw [hm]
    replace hm := Hold.mk hm
    have hput := wr_put2 (L := L) (i := d) (r := [.list (heap.map encI), .int .i64 pc, .int .i64 asked, .int .i64 1, .int .i64 (d : Int), .int .i64 (a : Int), .int .i64 xb, .int .i64 xn, .int .i64 xto, .list (ask.map encI), .list [], .int .i64 how, .int .i64 value]) ⟨true, xn⟩ (by omega)
    replace hL := Hold.mk hL
    repeat' (first | simp only [seval, evx, beq_self_eq_true, sb, ew, insA, encIns, ins_dec, ins_eta, wrow_eq, evs_eq, encEv_def, List.map_cons, List.map_nil, *] | simp (disch := omega) only [if_pos, if_neg] | refine R.seq ?_ | refine LCB.text ?_ | refine LCB.quiet rfl ?_ | refine R.anyX ?_ | refine R.block ?_ | refine LCB.skip ?_ | refine LCB.exit ?_ | refine LCB.ret ?_ | ((first | refine RetOk.val hcl ?_ | refine Weak.at hcl ?_); simp only [seval, evw, fm, sb, ew, insA, encIns, ins_dec, ins_eta, wrow_eq, evs_eq, encEv_def, List.map_cons, List.map_nil, *]) | ((first | refine LCB.cond (by simp only [seval, evx] <;> rfl) ?_ ?_ | refine wpG_split (by simp only [seval, evx] <;> rfl) ?_ ?_ | refine wxG_split (by simp only [seval, evx] <;> rfl) ?_ ?_) <;> (intro hc; try simp only [seval, nf] at hc)) | refine ACalls.inst ?_ | refine CallX.inst ?_ | (with_reducible refine And.intro ?_ ?_) | exact True.intro)
    (refine RetOk.upd (.tup []) (g5 _) (by rw [List.length_set]; exact hcl.set (vec_clean (by simp [cl_wc, cleanAll, AV.clean, hev.of]))) ?_ ⟨rfl, rfl⟩; exact .same _ rfl)
  by_cases o2 : op = 2
  · subst o2
    have hm : moveS ⟨L, heap, pc, asked⟩ ⟨2, (d : Int), (a : Int), xb, xn, xto⟩ = ⟨L.set d (L.getD a noW), heap, pc, asked⟩ := by simp [moveS]
    rw [hm]
    replace hm := Hold.mk hm
    have hg := wr_pair (L := L) (i := a) (r := [.list (heap.map encI), .int .i64 pc, .int .i64 asked, .int .i64 2, .int .i64 (d : Int), .int .i64 (a : Int), .int .i64 xb, .int .i64 xn, .int .i64 xto, .list (ask.map encI), .list [], .int .i64 how, .int .i64 value]) (by omega)
    have hput := wr_put2 (L := L) (i := d) (r := [.list (heap.map encI), .int .i64 pc, .int .i64 asked, .int .i64 2, .int .i64 (d : Int), .int .i64 (a : Int), .int .i64 xb, .int .i64 xn, .int .i64 xto, .list (ask.map encI), .list [], .int .i64 how, .int .i64 value]) (L.getD a noW) (by omega)
    generalize L.getD a noW = w at *
    simp only [encW_def] at hg
    replace hL := Hold.mk hL
    repeat' (first | simp only [seval, evx, beq_self_eq_true, sb, ew, insA, encIns, ins_dec, ins_eta, wrow_eq, evs_eq, encEv_def, List.map_cons, List.map_nil, *] | simp (disch := omega) only [if_pos, if_neg] | refine R.seq ?_ | refine LCB.text ?_ | refine LCB.quiet rfl ?_ | refine R.anyX ?_ | refine R.block ?_ | refine LCB.skip ?_ | refine LCB.exit ?_ | refine LCB.ret ?_ | ((first | refine RetOk.val hcl ?_ | refine Weak.at hcl ?_); simp only [seval, evw, fm, sb, ew, insA, encIns, ins_dec, ins_eta, wrow_eq, evs_eq, encEv_def, List.map_cons, List.map_nil, *]) | ((first | refine LCB.cond (by simp only [seval, evx] <;> rfl) ?_ ?_ | refine wpG_split (by simp only [seval, evx] <;> rfl) ?_ ?_ | refine wxG_split (by simp only [seval, evx] <;> rfl) ?_ ?_) <;> (intro hc; try simp only [seval, nf] at hc)) | refine ACalls.inst ?_ | refine CallX.inst ?_ | (with_reducible refine And.intro ?_ ?_) | exact True.intro)
    (refine RetOk.upd (.tup []) (g5 _) (by rw [List.length_set]; exact hcl.set (vec_clean (by simp [cl_wc, cleanAll, AV.clean, hev.of]))) ?_ ⟨rfl, rfl⟩; exact .same _ rfl)
  by_cases o3 : op = 3
  · subst o3
    have hm : moveS ⟨L, heap, pc, asked⟩ ⟨3, (d : Int), (a : Int), xb, xn, xto⟩ = ⟨(L.set d (L.getD a noW)).set a (L.getD d noW), heap, pc, asked⟩ := by simp [moveS]
    rw [hm]
    replace hm := Hold.mk hm
    have hg := wr_pair (L := L) (i := a) (r := [.list (heap.map encI), .int .i64 pc, .int .i64 asked, .int .i64 3, .int .i64 (d : Int), .int .i64 (a : Int), .int .i64 xb, .int .i64 xn, .int .i64 xto, .list (ask.map encI), .list [], .int .i64 how, .int .i64 value]) (by omega)
    have hg2 := wr_pair (L := L) (i := d) (r := [.list (heap.map encI), .int .i64 pc, .int .i64 asked, .int .i64 3, .int .i64 (d : Int), .int .i64 (a : Int), .int .i64 xb, .int .i64 xn, .int .i64 xto, .list (ask.map encI), .list [], .int .i64 how, .int .i64 value]) (by omega)
    have hput := wr_put2 (L := L) (i := d) (r := [.list (heap.map encI), .int .i64 pc, .int .i64 asked, .int .i64 3, .int .i64 (d : Int), .int .i64 (a : Int), .int .i64 xb, .int .i64 xn, .int .i64 xto, .list (ask.map encI), .list [], .int .i64 how, .int .i64 value]) (L.getD a noW) (by omega)
    have hput2 := wr_put2 (L := L.set d (L.getD a noW)) (i := a) (r := [.list (heap.map encI), .int .i64 pc, .int .i64 asked, .int .i64 3, .int .i64 (d : Int), .int .i64 (a : Int), .int .i64 xb, .int .i64 xn, .int .i64 xto, .list (ask.map encI), .list [], .int .i64 how, .int .i64 value]) (L.getD d noW) (by rw [List.length_set]; omega)
    generalize L.getD a noW = w at *
    generalize L.getD d noW = u at *
    simp only [encW_def] at hg hg2
    replace hL := Hold.mk hL
    repeat' (first | simp only [seval, evx, beq_self_eq_true, sb, ew, insA, encIns, ins_dec, ins_eta, wrow_eq, evs_eq, encEv_def, List.map_cons, List.map_nil, *] | simp (disch := omega) only [if_pos, if_neg] | refine R.seq ?_ | refine LCB.text ?_ | refine LCB.quiet rfl ?_ | refine R.anyX ?_ | refine R.block ?_ | refine LCB.skip ?_ | refine LCB.exit ?_ | refine LCB.ret ?_ | ((first | refine RetOk.val hcl ?_ | refine Weak.at hcl ?_); simp only [seval, evw, fm, sb, ew, insA, encIns, ins_dec, ins_eta, wrow_eq, evs_eq, encEv_def, List.map_cons, List.map_nil, *]) | ((first | refine LCB.cond (by simp only [seval, evx] <;> rfl) ?_ ?_ | refine wpG_split (by simp only [seval, evx] <;> rfl) ?_ ?_ | refine wxG_split (by simp only [seval, evx] <;> rfl) ?_ ?_) <;> (intro hc; try simp only [seval, nf] at hc)) | refine ACalls.inst ?_ | refine CallX.inst ?_ | (with_reducible refine And.intro ?_ ?_) | exact True.intro)
    (refine RetOk.upd (.tup []) (g5 _) (by rw [List.length_set]; exact hcl.set (vec_clean (by simp [cl_wc, cleanAll, AV.clean, hev.of]))) ?_ ⟨rfl, rfl⟩; exact .same _ rfl)
  · simp only at hop
    omega
end Go.Proofs.YtphmakopjfbmnaaDoor
namespace Go.Proofs.YtphmakopjfbmnaaDoor
open Go.RowKit
set_option linter.unusedVariables false
set_option linter.unusedSimpArgs false
def stepW (s : St) (x : Ins) (ask : List Int) : St × List Ev × Int × Int :=
  let a := (s.L.getD x.a.toNat noW).v
  let b := (s.L.getD x.b.toNat noW).v
  if x.op = 13 then (if (hLoad s.heap a).2 = 0 then ({ setS s x.d.toNat (hLoad s.heap a).1 0 with pc := s.pc + 1 }, [], 0, 0) else (s, [], (hLoad s.heap a).2, 0))
  else if x.op = 14 then (if (hStore s.heap a b).2 = 0 then ({ s with heap := (hStore s.heap a b).1, pc := s.pc + 1 }, [], 0, 0) else (s, [], (hStore s.heap a b).2, 0))
  else if x.op = 15 then (if s.asked < (ask.length : Int) then ({ callS s x.d.toNat (ask.getD s.asked.toNat 0) with pc := s.pc + 1 }, [⟨x.n, a, ask.getD s.asked.toNat 0⟩], 0, 0) else (s, [], 5, 0))
  else if x.op = 18 then (s, [], 1, a)
  else if x.op = 17 then ({ s with pc := if a = 0 then x.to else s.pc + 1 }, [], 0, 0)
  else if x.op = 16 then ({ s with pc := x.to }, [], 0, 0)
  else if x.op = 1 ∨ x.op = 2 ∨ x.op = 3 then ({ moveS s x with pc := s.pc + 1 }, [], 0, 0)
  else if (numDo x.op a b).2 = 0 then ({ setS s x.d.toNat (numDo x.op a b).1 0 with pc := s.pc + 1 }, [], 0, 0)
  else (s, [], (numDo x.op a b).2, 0)
theorem moveS_pc (s : St) (x : Ins) : (moveS s x).pc = s.pc := by unfold moveS; (repeat' split) <;> rfl
theorem moveS_len (s : St) (x : Ins) : (moveS s x).L.length = s.L.length := by unfold moveS; (repeat' split) <;> simp
theorem hLoad_how (h : List Int) (a : Int) : (hLoad h a).2 = 0 ∨ (hLoad h a).2 = 4 := by unfold hLoad; split <;> simp
theorem hStore_how (h : List Int) (a v : Int) : (hStore h a v).2 = 0 ∨ (hStore h a v).2 = 4 := by unfold hStore; split <;> simp
set_option maxHeartbeats 4000000 in
theorem work_do_ok {H : List AObj} {k : Nat} {s : St} {x : Ins} {ask : List Int} (d a b : Nat) (hd : x.d = (d : Int)) (hd2 : d < 24) (ha : x.a = (a : Int)) (ha2 : a < 24) (hb : x.b = (b : Int)) (hb2 : b < 24) (hk : k < H.length) (hx : H[k]? = some (.vec 61 [wrow s x ask (.list []) 0 0])) (hL : s.L.length = 24)
    (h0 : 0 ≤ s.asked) (hask : (ask.length : Int) ≤ 9223372036854775807) (hp0 : 0 ≤ s.pc) (hp1 : s.pc ≤ 1000) :
    ACalls Tryd.prog 54 [.ptr k 1 0 0] H fun r' H' => r' = .tup [] ∧ H' = H.set k (.vec 61 [wrow (stepW s x ask).1 x ask (evs (stepW s x ask).2.1) (stepW s x ask).2.2.1 (stepW s x ask).2.2.2]) := by
  refine ACalls.go step_work_do.low (by simp) fun hcl => ?_
  have hwl : (wc s.L).length = 48 := by rw [wc_len, hL]
  have g1 : ∀ M : List AObj, (H ++ M)[k]? = some (.vec 61 [wrow s x ask (.list []) 0 0]) := fun M => by rw [in_get hk, hx]
  have g2 : ∀ (M : List AObj) (o : AObj), (H ++ M).set k o = H.set k o ++ M := fun M o => in_set hk
  have g3 := ob_get hk
  have g4 := ob_set hk
  have g5 : ∀ o : AObj, H.length ≤ (H.set k o).length := fun o => by simp
  have hk0 : Hold (k < (H ++ []).length) := ⟨by simpa using hk⟩
  have hx0 : Hold ((H ++ [])[k]? = some (.vec 61 [wrow s x ask (.list []) 0 0])) := ⟨g1 []⟩
  have e1 : IntKind.i64.wrap (s.pc + 1) = s.pc + 1 := by rw [IntKind.wrap_i64]; omega
  have hw := hx0.of
  rw [wrow_eq] at hw
  have n1 := Hold.mk (work_number_ok (L := s.L) (r := _) hk0.of hw hL a ha2)
  have n2 := Hold.mk (work_number_ok (L := s.L) (r := _) hk0.of hw hL b hb2)
  have hset := Hold.mk (fun v how => work_set_ok (s := s) (x := x) (ask := ask) (ev := .list []) (h0 := 0) (value := 0) v how d hd hd2 hk0.of hx0.of hL rfl rfl)
  have hcall := Hold.mk (fun arg => work_call_ok (s := s) (x := x) (ask := ask) (value := 0) arg d hd hd2 hk0.of hx0.of hL h0 hask)
  have hmove := Hold.mk (fun ho => work_move_ok (s := s) (x := x) (ask := ask) (value := 0) (how := 0) d a hd hd2 ha ha2 ho hk0.of hx0.of hL)
  have hins := Hold.mk (ins_Moves_ok x)
  have hld := Hold.mk (heap_Load_ok s.heap (s.L.getD a noW).v)
  have hst := Hold.mk (heap_Store_ok s.heap (s.L.getD a noW).v (s.L.getD b noW).v)
  have hnum := Hold.mk (num_Do_ok x.op (s.L.getD a noW).v (s.L.getD b noW).v)
  have hlh := Hold.mk (hLoad_how s.heap (s.L.getD a noW).v)
  have hsh := Hold.mk (hStore_how s.heap (s.L.getD a noW).v (s.L.getD b noW).v)
  obtain ⟨RES, hW⟩ : ∃ R, stepW s x ask = R := ⟨_, rfl⟩
  rw [hW]
  unfold stepW at hW
  rw [show x.a.toNat = a by rw [ha]; simp, show x.b.toNat = b by rw [hb]; simp, show x.d.toNat = d by rw [hd]; simp] at hW
  simp only at hW
  have hpm := moveS_pc s x
  have hlm := moveS_len s x
  replace hpm := Hold.mk hpm
  replace hlm := Hold.mk hlm
  generalize (s.L.getD a noW).v = va at *
  generalize (s.L.getD b noW).v = vb at *
  clear hx hw
  obtain ⟨op, xd, xa, xb, xn, xto⟩ := x
  simp only at hd ha hb
  subst hd
  subst ha
  subst hb
  rw [insA_eq] at hins
  simp only at hW hins hnum
  replace hW := Hold.mk hW
  replace hL := Hold.mk hL
  clear h0 hask hp0 hp1
  refine R.cut [(0, .ptr k 1 0 0), (2, .int .i64 va), (3, .int .i64 vb)] (H ++ []) ?_ ?_
  · refine LCB.any ?_
    repeat' (first | (refine Weak.at hcl ?_; simp only [seval, evw, fm, sb, ew, insA, encIns, ins_dec, ins_eta, wrow_eq, evs_eq, encEv_def, List.map_cons, List.map_nil, *]) | (refine ACalls.mono n1.of ?_; rintro r' H' ⟨rfl, rfl⟩) | (refine ACalls.mono n2.of ?_; rintro r' H' ⟨rfl, rfl⟩) | (with_reducible refine And.intro ?_ ?_) | exact True.intro | simp only [wpP, wpPs, pureStep, seval, evo, evp, sb, ew, insA, encIns, ins_dec, ins_eta, wrow_eq, evs_eq, encEv_def, List.map_cons, List.map_nil, *])
  by_cases o13 : op = 13
  · subst o13
    have hW2 := hW.of
    rw [if_pos rfl] at hW2
    unfold hLoadA at hld
    clear hW
    generalize hLoad s.heap va = q at *
    obtain ⟨v, how⟩ := q
    simp only at hW2 hld hlh
    replace hW2 := Hold.mk hW2
    repeat' (first | simp only [seval, evx, beq_self_eq_true, sb, ew, insA, encIns, ins_dec, ins_eta, wrow_eq, evs_eq, encEv_def, List.map_cons, List.map_nil, *] | simp (disch := omega) only [if_pos, if_neg] | refine R.seq ?_ | refine LCB.text ?_ | refine LCB.quiet rfl ?_ | refine R.anyX ?_ | refine R.block ?_ | refine LCB.skip ?_ | refine LCB.exit ?_ | refine LCB.ret ?_ | ((first | refine RetOk.val hcl ?_ | refine Weak.at hcl ?_); simp only [seval, evw, fm, sb, ew, insA, encIns, ins_dec, ins_eta, wrow_eq, evs_eq, encEv_def, List.map_cons, List.map_nil, *]) | ((first | refine LCB.cond (by simp only [seval, evx] <;> rfl) ?_ ?_ | refine wpG_split (by simp only [seval, evx] <;> rfl) ?_ ?_ | refine wxG_split (by simp only [seval, evx] <;> rfl) ?_ ?_) <;> (intro hc; try simp only [seval, nf] at hc)) | refine ACalls.inst ?_ | refine CallX.inst ?_ | (with_reducible refine And.intro ?_ ?_) | exact True.intro)
    first | refine ACalls.pure (hld.of) ?_ | refine CallP.pure (hld.of) rfl ?_ | refine CallX.pure (hld.of) ?_
    repeat' (first | simp only [seval, evx, beq_self_eq_true, sb, ew, insA, encIns, ins_dec, ins_eta, wrow_eq, evs_eq, encEv_def, List.map_cons, List.map_nil, *] | simp (disch := omega) only [if_pos, if_neg] | refine R.seq ?_ | refine LCB.text ?_ | refine LCB.quiet rfl ?_ | refine R.anyX ?_ | refine R.block ?_ | refine LCB.skip ?_ | refine LCB.exit ?_ | refine LCB.ret ?_ | ((first | refine RetOk.val hcl ?_ | refine Weak.at hcl ?_); simp only [seval, evw, fm, sb, ew, insA, encIns, ins_dec, ins_eta, wrow_eq, evs_eq, encEv_def, List.map_cons, List.map_nil, *]) | ((first | refine LCB.cond (by simp only [seval, evx] <;> rfl) ?_ ?_ | refine wpG_split (by simp only [seval, evx] <;> rfl) ?_ ?_ | refine wxG_split (by simp only [seval, evx] <;> rfl) ?_ ?_) <;> (intro hc; try simp only [seval, nf] at hc)) | refine ACalls.inst ?_ | refine CallX.inst ?_ | (with_reducible refine And.intro ?_ ?_) | exact True.intro)
    refine (hset.of v how).mono ?_
    rintro r' H' ⟨rfl, rfl⟩
    replace hW2 := hW2.of
    by_cases hh : how = 0
    · subst hh
      rw [if_pos rfl] at hW2
      subst hW2
      have hs : setS s d v 0 = { s with L := s.L.set d ⟨true, v⟩ } := by simp [setS]
      rw [hs]
      replace hs := Hold.mk hs
      have hwl2 : (wc (s.L.set d ⟨true, v⟩)).length = 48 := by rw [wc_len, List.length_set, hL.of]
      repeat' (first | simp only [seval, evx, beq_self_eq_true, sb, ew, insA, encIns, ins_dec, ins_eta, wrow_eq, evs_eq, encEv_def, List.map_cons, List.map_nil, *] | simp (disch := omega) only [if_pos, if_neg] | refine R.seq ?_ | refine LCB.text ?_ | refine LCB.quiet rfl ?_ | refine R.anyX ?_ | refine R.block ?_ | refine LCB.skip ?_ | refine LCB.exit ?_ | refine LCB.ret ?_ | ((first | refine RetOk.val hcl ?_ | refine Weak.at hcl ?_); simp only [seval, evw, fm, sb, ew, insA, encIns, ins_dec, ins_eta, wrow_eq, evs_eq, encEv_def, List.map_cons, List.map_nil, *]) | ((first | refine LCB.cond (by simp only [seval, evx] <;> rfl) ?_ ?_ | refine wpG_split (by simp only [seval, evx] <;> rfl) ?_ ?_ | refine wxG_split (by simp only [seval, evx] <;> rfl) ?_ ?_) <;> (intro hc; try simp only [seval, nf] at hc)) | refine ACalls.inst ?_ | refine CallX.inst ?_ | (with_reducible refine And.intro ?_ ?_) | exact True.intro)
      (refine RetOk.upd (.tup []) (g5 _) (by rw [List.length_set]; exact hcl.set (vec_clean (by simp [cl_wc, cleanAll, AV.clean]))) ?_ ⟨rfl, rfl⟩; exact .same _ rfl)
    · rw [if_neg hh] at hW2
      subst hW2
      have hs : setS s d v how = s := by simp [setS, hh]
      rw [hs]
      replace hs := Hold.mk hs
      repeat' (first | simp only [seval, evx, beq_self_eq_true, sb, ew, insA, encIns, ins_dec, ins_eta, wrow_eq, evs_eq, encEv_def, List.map_cons, List.map_nil, *] | simp (disch := omega) only [if_pos, if_neg] | refine R.seq ?_ | refine LCB.text ?_ | refine LCB.quiet rfl ?_ | refine R.anyX ?_ | refine R.block ?_ | refine LCB.skip ?_ | refine LCB.exit ?_ | refine LCB.ret ?_ | ((first | refine RetOk.val hcl ?_ | refine Weak.at hcl ?_); simp only [seval, evw, fm, sb, ew, insA, encIns, ins_dec, ins_eta, wrow_eq, evs_eq, encEv_def, List.map_cons, List.map_nil, *]) | ((first | refine LCB.cond (by simp only [seval, evx] <;> rfl) ?_ ?_ | refine wpG_split (by simp only [seval, evx] <;> rfl) ?_ ?_ | refine wxG_split (by simp only [seval, evx] <;> rfl) ?_ ?_) <;> (intro hc; try simp only [seval, nf] at hc)) | refine ACalls.inst ?_ | refine CallX.inst ?_ | (with_reducible refine And.intro ?_ ?_) | exact True.intro)
      (refine RetOk.upd (.tup []) (g5 _) (by rw [List.length_set]; exact hcl.set (vec_clean (by simp [cl_wc, cleanAll, AV.clean]))) ?_ ⟨rfl, rfl⟩; exact .same _ rfl)
  by_cases o14 : op = 14
  · subst o14
    have hW2 := hW.of
    rw [if_neg (by omega), if_pos rfl] at hW2
    unfold hStoreA ints at hst
    clear hW
    generalize hStore s.heap va vb = q at *
    obtain ⟨h', how⟩ := q
    simp only at hW2 hst hsh
    replace hW2 := Hold.mk hW2
    by_cases hh : how = 0
    · subst hh
      have hW3 := hW2.of
      rw [if_pos rfl] at hW3
      subst hW3
      clear hW2
      repeat' (first | simp only [seval, evx, beq_self_eq_true, sb, ew, insA, encIns, ins_dec, ins_eta, wrow_eq, evs_eq, encEv_def, List.map_cons, List.map_nil, *] | simp (disch := omega) only [if_pos, if_neg] | refine R.seq ?_ | refine LCB.text ?_ | refine LCB.quiet rfl ?_ | refine R.anyX ?_ | refine R.block ?_ | refine LCB.skip ?_ | refine LCB.exit ?_ | refine LCB.ret ?_ | ((first | refine RetOk.val hcl ?_ | refine Weak.at hcl ?_); simp only [seval, evw, fm, sb, ew, insA, encIns, ins_dec, ins_eta, wrow_eq, evs_eq, encEv_def, List.map_cons, List.map_nil, *]) | ((first | refine LCB.cond (by simp only [seval, evx] <;> rfl) ?_ ?_ | refine wpG_split (by simp only [seval, evx] <;> rfl) ?_ ?_ | refine wxG_split (by simp only [seval, evx] <;> rfl) ?_ ?_) <;> (intro hc; try simp only [seval, nf] at hc)) | refine ACalls.inst ?_ | refine CallX.inst ?_ | (with_reducible refine And.intro ?_ ?_) | exact True.intro)
      first | refine ACalls.pure (hst.of) ?_ | refine CallP.pure (hst.of) rfl ?_ | refine CallX.pure (hst.of) ?_
      repeat' (first | simp only [seval, evx, beq_self_eq_true, sb, ew, insA, encIns, ins_dec, ins_eta, wrow_eq, evs_eq, encEv_def, List.map_cons, List.map_nil, *] | simp (disch := omega) only [if_pos, if_neg] | refine R.seq ?_ | refine LCB.text ?_ | refine LCB.quiet rfl ?_ | refine R.anyX ?_ | refine R.block ?_ | refine LCB.skip ?_ | refine LCB.exit ?_ | refine LCB.ret ?_ | ((first | refine RetOk.val hcl ?_ | refine Weak.at hcl ?_); simp only [seval, evw, fm, sb, ew, insA, encIns, ins_dec, ins_eta, wrow_eq, evs_eq, encEv_def, List.map_cons, List.map_nil, *]) | ((first | refine LCB.cond (by simp only [seval, evx] <;> rfl) ?_ ?_ | refine wpG_split (by simp only [seval, evx] <;> rfl) ?_ ?_ | refine wxG_split (by simp only [seval, evx] <;> rfl) ?_ ?_) <;> (intro hc; try simp only [seval, nf] at hc)) | refine ACalls.inst ?_ | refine CallX.inst ?_ | (with_reducible refine And.intro ?_ ?_) | exact True.intro)
      (refine RetOk.upd (.tup []) (g5 _) (by rw [List.length_set]; exact hcl.set (vec_clean (by simp [cl_wc, cleanAll, AV.clean]))) ?_ ⟨rfl, rfl⟩; exact .same _ rfl)
    · have hW3 := hW2.of
      rw [if_neg hh] at hW3
      subst hW3
      clear hW2
      repeat' (first | simp only [seval, evx, beq_self_eq_true, sb, ew, insA, encIns, ins_dec, ins_eta, wrow_eq, evs_eq, encEv_def, List.map_cons, List.map_nil, *] | simp (disch := omega) only [if_pos, if_neg] | refine R.seq ?_ | refine LCB.text ?_ | refine LCB.quiet rfl ?_ | refine R.anyX ?_ | refine R.block ?_ | refine LCB.skip ?_ | refine LCB.exit ?_ | refine LCB.ret ?_ | ((first | refine RetOk.val hcl ?_ | refine Weak.at hcl ?_); simp only [seval, evw, fm, sb, ew, insA, encIns, ins_dec, ins_eta, wrow_eq, evs_eq, encEv_def, List.map_cons, List.map_nil, *]) | ((first | refine LCB.cond (by simp only [seval, evx] <;> rfl) ?_ ?_ | refine wpG_split (by simp only [seval, evx] <;> rfl) ?_ ?_ | refine wxG_split (by simp only [seval, evx] <;> rfl) ?_ ?_) <;> (intro hc; try simp only [seval, nf] at hc)) | refine ACalls.inst ?_ | refine CallX.inst ?_ | (with_reducible refine And.intro ?_ ?_) | exact True.intro)
      first | refine ACalls.pure (hst.of) ?_ | refine CallP.pure (hst.of) rfl ?_ | refine CallX.pure (hst.of) ?_
      repeat' (first | simp only [seval, evx, beq_self_eq_true, sb, ew, insA, encIns, ins_dec, ins_eta, wrow_eq, evs_eq, encEv_def, List.map_cons, List.map_nil, *] | simp (disch := omega) only [if_pos, if_neg] | refine R.seq ?_ | refine LCB.text ?_ | refine LCB.quiet rfl ?_ | refine R.anyX ?_ | refine R.block ?_ | refine LCB.skip ?_ | refine LCB.exit ?_ | refine LCB.ret ?_ | ((first | refine RetOk.val hcl ?_ | refine Weak.at hcl ?_); simp only [seval, evw, fm, sb, ew, insA, encIns, ins_dec, ins_eta, wrow_eq, evs_eq, encEv_def, List.map_cons, List.map_nil, *]) | ((first | refine LCB.cond (by simp only [seval, evx] <;> rfl) ?_ ?_ | refine wpG_split (by simp only [seval, evx] <;> rfl) ?_ ?_ | refine wxG_split (by simp only [seval, evx] <;> rfl) ?_ ?_) <;> (intro hc; try simp only [seval, nf] at hc)) | refine ACalls.inst ?_ | refine CallX.inst ?_ | (with_reducible refine And.intro ?_ ?_) | exact True.intro)
      (refine RetOk.upd (.tup []) (g5 _) (by rw [List.length_set]; exact hcl.set (vec_clean (by simp [cl_wc, cleanAll, AV.clean]))) ?_ ⟨rfl, rfl⟩; exact .same _ rfl)
  by_cases o15 : op = 15
  · subst o15
    have hW2 := hW.of
    rw [if_neg (by omega), if_neg (by omega), if_pos rfl] at hW2
    clear hW
    have hc2 := hcall.of va
    clear hcall
    by_cases hlt : s.asked < (ask.length : Int)
    · rw [if_pos hlt] at hW2
      simp only [hlt, if_true] at hc2
      subst hW2
      generalize hcs : callS s d (ask.getD s.asked.toNat 0) = s' at *
      have hpc' : s'.pc = s.pc := by rw [← hcs]; rfl
      have hlc' : (wc s'.L).length = 48 := by rw [wc_len, ← hcs]; simp [callS, hL.of]
      generalize ask.getD s.asked.toNat 0 = ans at *
      replace hcs := Hold.mk hcs
      replace hpc' := Hold.mk hpc'
      replace hc2 := Hold.mk hc2
      clear hlt
      repeat' (first | simp only [seval, evx, beq_self_eq_true, sb, ew, insA, encIns, ins_dec, ins_eta, wrow_eq, evs_eq, encEv_def, List.map_cons, List.map_nil, *] | simp (disch := omega) only [if_pos, if_neg] | refine R.seq ?_ | refine LCB.text ?_ | refine LCB.quiet rfl ?_ | refine R.anyX ?_ | refine R.block ?_ | refine LCB.skip ?_ | refine LCB.exit ?_ | refine LCB.ret ?_ | ((first | refine RetOk.val hcl ?_ | refine Weak.at hcl ?_); simp only [seval, evw, fm, sb, ew, insA, encIns, ins_dec, ins_eta, wrow_eq, evs_eq, encEv_def, List.map_cons, List.map_nil, *]) | ((first | refine LCB.cond (by simp only [seval, evx] <;> rfl) ?_ ?_ | refine wpG_split (by simp only [seval, evx] <;> rfl) ?_ ?_ | refine wxG_split (by simp only [seval, evx] <;> rfl) ?_ ?_) <;> (intro hc; try simp only [seval, nf] at hc)) | refine ACalls.inst ?_ | refine CallX.inst ?_ | (with_reducible refine And.intro ?_ ?_) | exact True.intro)
      refine hc2.of.mono ?_
      rintro r' H' ⟨rfl, rfl⟩
      repeat' (first | simp only [seval, evx, beq_self_eq_true, sb, ew, insA, encIns, ins_dec, ins_eta, wrow_eq, evs_eq, encEv_def, List.map_cons, List.map_nil, *] | simp (disch := omega) only [if_pos, if_neg] | refine R.seq ?_ | refine LCB.text ?_ | refine LCB.quiet rfl ?_ | refine R.anyX ?_ | refine R.block ?_ | refine LCB.skip ?_ | refine LCB.exit ?_ | refine LCB.ret ?_ | ((first | refine RetOk.val hcl ?_ | refine Weak.at hcl ?_); simp only [seval, evw, fm, sb, ew, insA, encIns, ins_dec, ins_eta, wrow_eq, evs_eq, encEv_def, List.map_cons, List.map_nil, *]) | ((first | refine LCB.cond (by simp only [seval, evx] <;> rfl) ?_ ?_ | refine wpG_split (by simp only [seval, evx] <;> rfl) ?_ ?_ | refine wxG_split (by simp only [seval, evx] <;> rfl) ?_ ?_) <;> (intro hc; try simp only [seval, nf] at hc)) | refine ACalls.inst ?_ | refine CallX.inst ?_ | (with_reducible refine And.intro ?_ ?_) | exact True.intro)
      (refine RetOk.upd (.tup []) (g5 _) (by rw [List.length_set]; exact hcl.set (vec_clean (by simp [cl_wc, cleanAll, AV.clean]))) ?_ ⟨rfl, rfl⟩; exact .same _ rfl)
    · rw [if_neg hlt] at hW2
      simp only [hlt, if_false] at hc2
      subst hW2
      replace hc2 := Hold.mk hc2
      clear hlt
      repeat' (first | simp only [seval, evx, beq_self_eq_true, sb, ew, insA, encIns, ins_dec, ins_eta, wrow_eq, evs_eq, encEv_def, List.map_cons, List.map_nil, *] | simp (disch := omega) only [if_pos, if_neg] | refine R.seq ?_ | refine LCB.text ?_ | refine LCB.quiet rfl ?_ | refine R.anyX ?_ | refine R.block ?_ | refine LCB.skip ?_ | refine LCB.exit ?_ | refine LCB.ret ?_ | ((first | refine RetOk.val hcl ?_ | refine Weak.at hcl ?_); simp only [seval, evw, fm, sb, ew, insA, encIns, ins_dec, ins_eta, wrow_eq, evs_eq, encEv_def, List.map_cons, List.map_nil, *]) | ((first | refine LCB.cond (by simp only [seval, evx] <;> rfl) ?_ ?_ | refine wpG_split (by simp only [seval, evx] <;> rfl) ?_ ?_ | refine wxG_split (by simp only [seval, evx] <;> rfl) ?_ ?_) <;> (intro hc; try simp only [seval, nf] at hc)) | refine ACalls.inst ?_ | refine CallX.inst ?_ | (with_reducible refine And.intro ?_ ?_) | exact True.intro)
      refine hc2.of.mono ?_
      rintro r' H' ⟨rfl, rfl⟩
      repeat' (first | simp only [seval, evx, beq_self_eq_true, sb, ew, insA, encIns, ins_dec, ins_eta, wrow_eq, evs_eq, encEv_def, List.map_cons, List.map_nil, *] | simp (disch := omega) only [if_pos, if_neg] | refine R.seq ?_ | refine LCB.text ?_ | refine LCB.quiet rfl ?_ | refine R.anyX ?_ | refine R.block ?_ | refine LCB.skip ?_ | refine LCB.exit ?_ | refine LCB.ret ?_ | ((first | refine RetOk.val hcl ?_ | refine Weak.at hcl ?_); simp only [seval, evw, fm, sb, ew, insA, encIns, ins_dec, ins_eta, wrow_eq, evs_eq, encEv_def, List.map_cons, List.map_nil, *]) | ((first | refine LCB.cond (by simp only [seval, evx] <;> rfl) ?_ ?_ | refine wpG_split (by simp only [seval, evx] <;> rfl) ?_ ?_ | refine wxG_split (by simp only [seval, evx] <;> rfl) ?_ ?_) <;> (intro hc; try simp only [seval, nf] at hc)) | refine ACalls.inst ?_ | refine CallX.inst ?_ | (with_reducible refine And.intro ?_ ?_) | exact True.intro)
      (refine RetOk.upd (.tup []) (g5 _) (by rw [List.length_set]; exact hcl.set (vec_clean (by simp [cl_wc, cleanAll, AV.clean]))) ?_ ⟨rfl, rfl⟩; exact .same _ rfl)
  by_cases o18 : op = 18
  · subst o18
    have hW2 := hW.of
    rw [if_neg (by omega), if_neg (by omega), if_neg (by omega), if_pos rfl] at hW2
    clear hW
    subst hW2
    repeat' (first | simp only [seval, evx, beq_self_eq_true, sb, ew, insA, encIns, ins_dec, ins_eta, wrow_eq, evs_eq, encEv_def, List.map_cons, List.map_nil, *] | simp (disch := omega) only [if_pos, if_neg] | refine R.seq ?_ | refine LCB.text ?_ | refine LCB.quiet rfl ?_ | refine R.anyX ?_ | refine R.block ?_ | refine LCB.skip ?_ | refine LCB.exit ?_ | refine LCB.ret ?_ | ((first | refine RetOk.val hcl ?_ | refine Weak.at hcl ?_); simp only [seval, evw, fm, sb, ew, insA, encIns, ins_dec, ins_eta, wrow_eq, evs_eq, encEv_def, List.map_cons, List.map_nil, *]) | ((first | refine LCB.cond (by simp only [seval, evx] <;> rfl) ?_ ?_ | refine wpG_split (by simp only [seval, evx] <;> rfl) ?_ ?_ | refine wxG_split (by simp only [seval, evx] <;> rfl) ?_ ?_) <;> (intro hc; try simp only [seval, nf] at hc)) | refine ACalls.inst ?_ | refine CallX.inst ?_ | (with_reducible refine And.intro ?_ ?_) | exact True.intro)
    (refine RetOk.upd (.tup []) (g5 _) (by rw [List.length_set]; exact hcl.set (vec_clean (by simp [cl_wc, cleanAll, AV.clean]))) ?_ ⟨rfl, rfl⟩; exact .same _ rfl)
  by_cases o17 : op = 17
  · subst o17
    have hW2 := hW.of
    rw [if_neg (by omega), if_neg (by omega), if_neg (by omega), if_neg (by omega), if_pos rfl] at hW2
    clear hW
    by_cases hz : va = 0
    · rw [if_pos hz] at hW2
      subst hW2
      subst hz
      repeat' (first | simp only [seval, evx, beq_self_eq_true, sb, ew, insA, encIns, ins_dec, ins_eta, wrow_eq, evs_eq, encEv_def, List.map_cons, List.map_nil, *] | simp (disch := omega) only [if_pos, if_neg] | refine R.seq ?_ | refine LCB.text ?_ | refine LCB.quiet rfl ?_ | refine R.anyX ?_ | refine R.block ?_ | refine LCB.skip ?_ | refine LCB.exit ?_ | refine LCB.ret ?_ | ((first | refine RetOk.val hcl ?_ | refine Weak.at hcl ?_); simp only [seval, evw, fm, sb, ew, insA, encIns, ins_dec, ins_eta, wrow_eq, evs_eq, encEv_def, List.map_cons, List.map_nil, *]) | ((first | refine LCB.cond (by simp only [seval, evx] <;> rfl) ?_ ?_ | refine wpG_split (by simp only [seval, evx] <;> rfl) ?_ ?_ | refine wxG_split (by simp only [seval, evx] <;> rfl) ?_ ?_) <;> (intro hc; try simp only [seval, nf] at hc)) | refine ACalls.inst ?_ | refine CallX.inst ?_ | (with_reducible refine And.intro ?_ ?_) | exact True.intro)
      (refine RetOk.upd (.tup []) (g5 _) (by rw [List.length_set]; exact hcl.set (vec_clean (by simp [cl_wc, cleanAll, AV.clean]))) ?_ ⟨rfl, rfl⟩; exact .same _ rfl)
    · rw [if_neg hz] at hW2
      subst hW2
      repeat' (first | simp only [seval, evx, beq_self_eq_true, sb, ew, insA, encIns, ins_dec, ins_eta, wrow_eq, evs_eq, encEv_def, List.map_cons, List.map_nil, *] | simp (disch := omega) only [if_pos, if_neg] | refine R.seq ?_ | refine LCB.text ?_ | refine LCB.quiet rfl ?_ | refine R.anyX ?_ | refine R.block ?_ | refine LCB.skip ?_ | refine LCB.exit ?_ | refine LCB.ret ?_ | ((first | refine RetOk.val hcl ?_ | refine Weak.at hcl ?_); simp only [seval, evw, fm, sb, ew, insA, encIns, ins_dec, ins_eta, wrow_eq, evs_eq, encEv_def, List.map_cons, List.map_nil, *]) | ((first | refine LCB.cond (by simp only [seval, evx] <;> rfl) ?_ ?_ | refine wpG_split (by simp only [seval, evx] <;> rfl) ?_ ?_ | refine wxG_split (by simp only [seval, evx] <;> rfl) ?_ ?_) <;> (intro hc; try simp only [seval, nf] at hc)) | refine ACalls.inst ?_ | refine CallX.inst ?_ | (with_reducible refine And.intro ?_ ?_) | exact True.intro)
      (refine RetOk.upd (.tup []) (g5 _) (by rw [List.length_set]; exact hcl.set (vec_clean (by simp [cl_wc, cleanAll, AV.clean]))) ?_ ⟨rfl, rfl⟩; exact .same _ rfl)
  by_cases o16 : op = 16
  · subst o16
    have hW2 := hW.of
    rw [if_neg (by omega), if_neg (by omega), if_neg (by omega), if_neg (by omega), if_neg (by omega), if_pos rfl] at hW2
    clear hW
    subst hW2
    repeat' (first | simp only [seval, evx, beq_self_eq_true, sb, ew, insA, encIns, ins_dec, ins_eta, wrow_eq, evs_eq, encEv_def, List.map_cons, List.map_nil, *] | simp (disch := omega) only [if_pos, if_neg] | refine R.seq ?_ | refine LCB.text ?_ | refine LCB.quiet rfl ?_ | refine R.anyX ?_ | refine R.block ?_ | refine LCB.skip ?_ | refine LCB.exit ?_ | refine LCB.ret ?_ | ((first | refine RetOk.val hcl ?_ | refine Weak.at hcl ?_); simp only [seval, evw, fm, sb, ew, insA, encIns, ins_dec, ins_eta, wrow_eq, evs_eq, encEv_def, List.map_cons, List.map_nil, *]) | ((first | refine LCB.cond (by simp only [seval, evx] <;> rfl) ?_ ?_ | refine wpG_split (by simp only [seval, evx] <;> rfl) ?_ ?_ | refine wxG_split (by simp only [seval, evx] <;> rfl) ?_ ?_) <;> (intro hc; try simp only [seval, nf] at hc)) | refine ACalls.inst ?_ | refine CallX.inst ?_ | (with_reducible refine And.intro ?_ ?_) | exact True.intro)
    (refine RetOk.upd (.tup []) (g5 _) (by rw [List.length_set]; exact hcl.set (vec_clean (by simp [cl_wc, cleanAll, AV.clean]))) ?_ ⟨rfl, rfl⟩; exact .same _ rfl)
  by_cases om : op = 1 ∨ op = 2 ∨ op = 3
  · have hW2 := hW.of
    rw [if_neg (by omega), if_neg (by omega), if_neg (by omega), if_neg (by omega), if_neg (by omega), if_neg (by omega), if_pos om] at hW2
    clear hW
    have hm := hmove.of om
    clear hmove
    have hmB : movesB op = true := by simp [movesB]; omega
    rw [hmB] at hins
    subst hW2
    generalize hms : moveS s ⟨op, (d : Int), (a : Int), (b : Int), xn, xto⟩ = s' at *
    have hlc' : (wc s'.L).length = 48 := by rw [wc_len, hlm.of, hL.of]
    replace hms := Hold.mk hms
    replace hm := Hold.mk hm
    clear om
    repeat' (first | simp only [seval, evx, beq_self_eq_true, sb, ew, insA, encIns, ins_dec, ins_eta, wrow_eq, evs_eq, encEv_def, List.map_cons, List.map_nil, *] | simp (disch := omega) only [if_pos, if_neg] | refine R.seq ?_ | refine LCB.text ?_ | refine LCB.quiet rfl ?_ | refine R.anyX ?_ | refine R.block ?_ | refine LCB.skip ?_ | refine LCB.exit ?_ | refine LCB.ret ?_ | ((first | refine RetOk.val hcl ?_ | refine Weak.at hcl ?_); simp only [seval, evw, fm, sb, ew, insA, encIns, ins_dec, ins_eta, wrow_eq, evs_eq, encEv_def, List.map_cons, List.map_nil, *]) | ((first | refine LCB.cond (by simp only [seval, evx] <;> rfl) ?_ ?_ | refine wpG_split (by simp only [seval, evx] <;> rfl) ?_ ?_ | refine wxG_split (by simp only [seval, evx] <;> rfl) ?_ ?_) <;> (intro hc; try simp only [seval, nf] at hc)) | refine ACalls.inst ?_ | refine CallX.inst ?_ | (with_reducible refine And.intro ?_ ?_) | exact True.intro)
    refine hm.of.mono ?_
    rintro r' H' ⟨rfl, rfl⟩
    repeat' (first | simp only [seval, evx, beq_self_eq_true, sb, ew, insA, encIns, ins_dec, ins_eta, wrow_eq, evs_eq, encEv_def, List.map_cons, List.map_nil, *] | simp (disch := omega) only [if_pos, if_neg] | refine R.seq ?_ | refine LCB.text ?_ | refine LCB.quiet rfl ?_ | refine R.anyX ?_ | refine R.block ?_ | refine LCB.skip ?_ | refine LCB.exit ?_ | refine LCB.ret ?_ | ((first | refine RetOk.val hcl ?_ | refine Weak.at hcl ?_); simp only [seval, evw, fm, sb, ew, insA, encIns, ins_dec, ins_eta, wrow_eq, evs_eq, encEv_def, List.map_cons, List.map_nil, *]) | ((first | refine LCB.cond (by simp only [seval, evx] <;> rfl) ?_ ?_ | refine wpG_split (by simp only [seval, evx] <;> rfl) ?_ ?_ | refine wxG_split (by simp only [seval, evx] <;> rfl) ?_ ?_) <;> (intro hc; try simp only [seval, nf] at hc)) | refine ACalls.inst ?_ | refine CallX.inst ?_ | (with_reducible refine And.intro ?_ ?_) | exact True.intro)
    (refine RetOk.upd (.tup []) (g5 _) (by rw [List.length_set]; exact hcl.set (vec_clean (by simp [cl_wc, cleanAll, AV.clean]))) ?_ ⟨rfl, rfl⟩; exact .same _ rfl)
  have hW2 := hW.of
  rw [if_neg o13, if_neg o14, if_neg o15, if_neg o18, if_neg o17, if_neg o16, if_neg om] at hW2
  clear hW
  have hmB : movesB op = false := by simp [movesB]; omega
  rw [hmB] at hins
  unfold nopR at hnum
  generalize numDo op va vb = q at *
  obtain ⟨v, how⟩ := q
  simp only at hW2 hnum
  replace hW2 := Hold.mk hW2
  replace om := Hold.mk om
  repeat' (first | simp only [seval, evx, beq_self_eq_true, sb, ew, insA, encIns, ins_dec, ins_eta, wrow_eq, evs_eq, encEv_def, List.map_cons, List.map_nil, *] | simp (disch := omega) only [if_pos, if_neg] | refine R.seq ?_ | refine LCB.text ?_ | refine LCB.quiet rfl ?_ | refine R.anyX ?_ | refine R.block ?_ | refine LCB.skip ?_ | refine LCB.exit ?_ | refine LCB.ret ?_ | ((first | refine RetOk.val hcl ?_ | refine Weak.at hcl ?_); simp only [seval, evw, fm, sb, ew, insA, encIns, ins_dec, ins_eta, wrow_eq, evs_eq, encEv_def, List.map_cons, List.map_nil, *]) | ((first | refine LCB.cond (by simp only [seval, evx] <;> rfl) ?_ ?_ | refine wpG_split (by simp only [seval, evx] <;> rfl) ?_ ?_ | refine wxG_split (by simp only [seval, evx] <;> rfl) ?_ ?_) <;> (intro hc; try simp only [seval, nf] at hc)) | refine ACalls.inst ?_ | refine CallX.inst ?_ | (with_reducible refine And.intro ?_ ?_) | exact True.intro)
  first | refine ACalls.pure (hnum.of) ?_ | refine CallP.pure (hnum.of) rfl ?_ | refine CallX.pure (hnum.of) ?_
  repeat' (first | simp only [seval, evx, beq_self_eq_true, sb, ew, insA, encIns, ins_dec, ins_eta, wrow_eq, evs_eq, encEv_def, List.map_cons, List.map_nil, *] | simp (disch := omega) only [if_pos, if_neg] | refine R.seq ?_ | refine LCB.text ?_ | refine LCB.quiet rfl ?_ | refine R.anyX ?_ | refine R.block ?_ | refine LCB.skip ?_ | refine LCB.exit ?_ | refine LCB.ret ?_ | ((first | refine RetOk.val hcl ?_ | refine Weak.at hcl ?_); simp only [seval, evw, fm, sb, ew, insA, encIns, ins_dec, ins_eta, wrow_eq, evs_eq, encEv_def, List.map_cons, List.map_nil, *]) | ((first | refine LCB.cond (by simp only [seval, evx] <;> rfl) ?_ ?_ | refine wpG_split (by simp only [seval, evx] <;> rfl) ?_ ?_ | refine wxG_split (by simp only [seval, evx] <;> rfl) ?_ ?_) <;> (intro hc; try simp only [seval, nf] at hc)) | refine ACalls.inst ?_ | refine CallX.inst ?_ | (with_reducible refine And.intro ?_ ?_) | exact True.intro)
  refine (hset.of v how).mono ?_
  rintro r' H' ⟨rfl, rfl⟩
  replace hW2 := hW2.of
  by_cases hh : how = 0
  · subst hh
    rw [if_pos rfl] at hW2
    subst hW2
    have hs : setS s d v 0 = { s with L := s.L.set d ⟨true, v⟩ } := by simp [setS]
    rw [hs]
    replace hs := Hold.mk hs
    have hwl2 : (wc (s.L.set d ⟨true, v⟩)).length = 48 := by rw [wc_len, List.length_set, hL.of]
    repeat' (first | simp only [seval, evx, beq_self_eq_true, sb, ew, insA, encIns, ins_dec, ins_eta, wrow_eq, evs_eq, encEv_def, List.map_cons, List.map_nil, *] | simp (disch := omega) only [if_pos, if_neg] | refine R.seq ?_ | refine LCB.text ?_ | refine LCB.quiet rfl ?_ | refine R.anyX ?_ | refine R.block ?_ | refine LCB.skip ?_ | refine LCB.exit ?_ | refine LCB.ret ?_ | ((first | refine RetOk.val hcl ?_ | refine Weak.at hcl ?_); simp only [seval, evw, fm, sb, ew, insA, encIns, ins_dec, ins_eta, wrow_eq, evs_eq, encEv_def, List.map_cons, List.map_nil, *]) | ((first | refine LCB.cond (by simp only [seval, evx] <;> rfl) ?_ ?_ | refine wpG_split (by simp only [seval, evx] <;> rfl) ?_ ?_ | refine wxG_split (by simp only [seval, evx] <;> rfl) ?_ ?_) <;> (intro hc; try simp only [seval, nf] at hc)) | refine ACalls.inst ?_ | refine CallX.inst ?_ | (with_reducible refine And.intro ?_ ?_) | exact True.intro)
    (refine RetOk.upd (.tup []) (g5 _) (by rw [List.length_set]; exact hcl.set (vec_clean (by simp [cl_wc, cleanAll, AV.clean]))) ?_ ⟨rfl, rfl⟩; exact .same _ rfl)
  · rw [if_neg hh] at hW2
    subst hW2
    have hs : setS s d v how = s := by simp [setS, hh]
    rw [hs]
    replace hs := Hold.mk hs
    repeat' (first | simp only [seval, evx, beq_self_eq_true, sb, ew, insA, encIns, ins_dec, ins_eta, wrow_eq, evs_eq, encEv_def, List.map_cons, List.map_nil, *] | simp (disch := omega) only [if_pos, if_neg] | refine R.seq ?_ | refine LCB.text ?_ | refine LCB.quiet rfl ?_ | refine R.anyX ?_ | refine R.block ?_ | refine LCB.skip ?_ | refine LCB.exit ?_ | refine LCB.ret ?_ | ((first | refine RetOk.val hcl ?_ | refine Weak.at hcl ?_); simp only [seval, evw, fm, sb, ew, insA, encIns, ins_dec, ins_eta, wrow_eq, evs_eq, encEv_def, List.map_cons, List.map_nil, *]) | ((first | refine LCB.cond (by simp only [seval, evx] <;> rfl) ?_ ?_ | refine wpG_split (by simp only [seval, evx] <;> rfl) ?_ ?_ | refine wxG_split (by simp only [seval, evx] <;> rfl) ?_ ?_) <;> (intro hc; try simp only [seval, nf] at hc)) | refine ACalls.inst ?_ | refine CallX.inst ?_ | (with_reducible refine And.intro ?_ ?_) | exact True.intro)
    (refine RetOk.upd (.tup []) (g5 _) (by rw [List.length_set]; exact hcl.set (vec_clean (by simp [cl_wc, cleanAll, AV.clean]))) ?_ ⟨rfl, rfl⟩; exact .same _ rfl)
end Go.Proofs.YtphmakopjfbmnaaDoor
namespace Go.Proofs.YtphmakopjfbmnaaDoor
open Go.RowKit
set_option linter.unusedVariables false
set_option linter.unusedSimpArgs false
theorem uses_same (x : Ins) : usesL x = usesR x := by
  obtain ⟨op, d, a, b, n, to⟩ := x
  cases hok : opOk op
  · have h : ¬ (1 ≤ op ∧ op ≤ 18) := by simpa [opOk] using hok
    unfold usesL usesR
    simp only [hok, Bool.false_and, Bool.false_eq_true, if_false]
    rw [if_neg (by omega), if_neg (by omega)]
  · rcases op_cases hok with rfl | rfl | rfl | rfl | rfl | rfl | rfl | rfl | rfl | rfl | rfl | rfl | rfl | rfl | rfl | rfl | rfl | rfl <;> rfl
end Go.Proofs.YtphmakopjfbmnaaDoor
