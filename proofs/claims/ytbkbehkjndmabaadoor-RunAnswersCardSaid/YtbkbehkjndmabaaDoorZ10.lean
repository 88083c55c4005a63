/-
  Texts of this claim, put together.
-/
import Derived.Test.YtbkbehkjndmabaaDoorProg
import Derived.KernelRfl
import Derived.Test.YtbkbehkjndmabaaDoorZ9
/-
  The seat's functions, made plain (printed by a program of this claim; each is held against the loaded program by the kernel).
-/
namespace Go.Proofs.YtbkbehkjndmabaaDoor
set_option maxRecDepth 100000
def joineryref08_Begins.k1 : LCode := .text [⟨some 5, .mv (.tmp 0), none⟩,⟨some 6, .len .slice (.tmp 5), none⟩,⟨some 7, .mv (.tmp 1), none⟩,⟨some 8, .len .slice (.tmp 7), none⟩,⟨some 9, .bin .leq .other (.tmp 6) (.tmp 8), none⟩,⟨some 10, .mv (.tmp 9), none⟩,⟨some 11, .mv (.tmp 0), some (10, true)⟩,⟨some 12, .mv (.tmp 1), some (10, true)⟩,⟨some 13, .mv (.tmp 0), some (10, true)⟩,⟨some 14, .len .slice (.tmp 13), some (10, true)⟩,⟨some 15, .slice 3 (.tmp 12) none (some (.tmp 14)) none, some (10, true)⟩,⟨some 16, .call (.cst (.fn (.func 24) [] [])) [.tmp 11, .tmp 15], some (10, true)⟩,⟨some 17, .pick (.tmp 10) (.tmp 16) (.cst (.bool false)), none⟩,⟨some 4, .mv (.tmp 17), none⟩]
def joineryref08_Begins.lc : LCode :=
 .seq (.text [⟨some 4, .mv (.cst (.bool false)), none⟩]) (.seq joineryref08_Begins.k1 .ret)
theorem joineryref08_Begins.low : lowFn Tryd.prog 37 = some (18, joineryref08_Begins.lc, [.tmp 4]) := by kernel_rfl

def joinerylaw08_RunAnswers.k1 : LCode := .text [⟨some 4, .box (.tmp 1), none⟩,⟨some 6, .mv (.cst (.bool false)), none⟩]
def joinerylaw08_RunAnswers.k2 : LCode := .text [⟨some 13, .mv (.tmp 0), none⟩,⟨some 14, .load true 11 (.tmp 4), none⟩,⟨some 15, .call (.cst (.fn (.func 27) [] [])) [.tmp 13, .tmp 14], none⟩,⟨some 16, .mv (.tmp 15), none⟩,⟨some 17, .mv (.tmp 2), some (16, false)⟩,⟨some 18, .len .slice (.tmp 17), some (16, false)⟩,⟨some 19, .bin .gtr .other (.tmp 18) (.cst (.int .i64 1000)), some (16, false)⟩,⟨some 20, .pick (.tmp 16) (.cst (.bool true)) (.tmp 19), none⟩,⟨some 21, .mv (.tmp 20), none⟩,⟨some 22, .mv (.tmp 0), some (21, false)⟩,⟨some 23, .load true 11 (.tmp 4), some (21, false)⟩,⟨some 24, .call (.cst (.fn (.func 34) [] [])) [.tmp 22, .tmp 23], some (21, false)⟩,⟨some 25, .not (.tmp 24), some (21, false)⟩,⟨some 26, .pick (.tmp 21) (.cst (.bool true)) (.tmp 25), none⟩]
def joinerylaw08_RunAnswers.k3 : LCode := .text [⟨some 27, .call (.cst (.fn (.func 28) [] [])) [], none⟩,⟨some 6, .mv (.tmp 27), none⟩]
def joinerylaw08_RunAnswers.k4 : LCode := .cond (.tmp 26) (.seq joinerylaw08_RunAnswers.k3 .ret) .skip
def joinerylaw08_RunAnswers.k5 : LCode := .text [⟨some 29, .mv (.tmp 0), none⟩,⟨some 30, .load true 11 (.tmp 4), none⟩,⟨some 31, .call (.cst (.fn (.func 29) [] [])) [.tmp 29, .tmp 30], none⟩,⟨some 28, .mv (.tmp 31), none⟩,⟨some 32, .extract (.tmp 28) 0, none⟩,⟨some 33, .extract (.tmp 28) 1, none⟩,⟨some 34, .extract (.tmp 28) 2, none⟩,⟨some 7, .alloc [.imm (.slice none 0 0), .int .i64 0, .int .i64 0, .imm (.slice none 0 0), .int .i64 0, .int .i64 0], none⟩,⟨some 8, .alloc [.bool false, .int .i64 0, .bool false, .int .i64 0, .bool false, .int .i64 0, .bool false, .int .i64 0, .bool false, .int .i64 0, .bool false, .int .i64 0, .bool false, .int .i64 0, .bool false, .int .i64 0, .bool false, .int .i64 0, .bool false, .int .i64 0, .bool false, .int .i64 0, .bool false, .int .i64 0, .bool false, .int .i64 0, .bool false, .int .i64 0, .bool false, .int .i64 0, .bool false, .int .i64 0, .bool false, .int .i64 0, .bool false, .int .i64 0, .bool false, .int .i64 0, .bool false, .int .i64 0, .bool false, .int .i64 0, .bool false, .int .i64 0, .bool false, .int .i64 0, .bool false, .int .i64 0, .imm (.slice none 0 0), .int .i64 0, .int .i64 0], none⟩,⟨none, .store 6 (.tmp 7) (.tmp 32), none⟩,⟨none, .store 51 (.tmp 8) (.tmp 33), none⟩,⟨some 9, .mv (.tmp 34), none⟩]
def joinerylaw08_RunAnswers.k6 : LCode := .text [⟨some 35, .bslice 1 [.int .i64 0] 0 [], none⟩,⟨some 36, .faddr 9 (.tmp 4), none⟩,⟨some 37, .load false 1 (.tmp 36), none⟩,⟨some 38, .append 1 8 (.tmp 35) (.tmp 37), none⟩,⟨some 39, .mv (.tmp 2), none⟩,⟨some 40, .append 1 8 (.tmp 38) (.tmp 39), none⟩,⟨some 41, .faddr 9 (.tmp 4), none⟩,⟨none, .store 1 (.tmp 41) (.tmp 40), none⟩]
def joinerylaw08_RunAnswers.k7 : LCode := .text [⟨some 43, .mv (.tmp 0), none⟩,⟨some 44, .load true 11 (.tmp 4), none⟩,⟨some 45, .call (.cst (.fn (.func 29) [] [])) [.tmp 43, .tmp 44], none⟩,⟨some 42, .mv (.tmp 45), none⟩,⟨some 46, .extract (.tmp 42) 0, none⟩,⟨some 47, .extract (.tmp 42) 1, none⟩,⟨some 48, .extract (.tmp 42) 2, none⟩,⟨some 10, .alloc [.imm (.slice none 0 0), .int .i64 0, .int .i64 0, .imm (.slice none 0 0), .int .i64 0, .int .i64 0], none⟩,⟨some 11, .alloc [.bool false, .int .i64 0, .bool false, .int .i64 0, .bool false, .int .i64 0, .bool false, .int .i64 0, .bool false, .int .i64 0, .bool false, .int .i64 0, .bool false, .int .i64 0, .bool false, .int .i64 0, .bool false, .int .i64 0, .bool false, .int .i64 0, .bool false, .int .i64 0, .bool false, .int .i64 0, .bool false, .int .i64 0, .bool false, .int .i64 0, .bool false, .int .i64 0, .bool false, .int .i64 0, .bool false, .int .i64 0, .bool false, .int .i64 0, .bool false, .int .i64 0, .bool false, .int .i64 0, .bool false, .int .i64 0, .bool false, .int .i64 0, .bool false, .int .i64 0, .bool false, .int .i64 0, .imm (.slice none 0 0), .int .i64 0, .int .i64 0], none⟩,⟨none, .store 6 (.tmp 10) (.tmp 46), none⟩,⟨none, .store 51 (.tmp 11) (.tmp 47), none⟩,⟨some 12, .mv (.tmp 48), none⟩]
def joinerylaw08_RunAnswers.k8 : LCode := .text [⟨some 49, .mv (.tmp 9), none⟩,⟨some 50, .bin .neq .other (.tmp 49) (.cst (.int .i64 0)), none⟩,⟨some 51, .mv (.tmp 50), none⟩,⟨some 52, .mv (.tmp 12), some (51, false)⟩,⟨some 53, .bin .neq .other (.tmp 52) (.cst (.int .i64 0)), some (51, false)⟩,⟨some 54, .pick (.tmp 51) (.cst (.bool true)) (.tmp 53), none⟩,⟨some 55, .mv (.tmp 54), none⟩,⟨some 56, .faddr 0 (.tmp 7), some (55, false)⟩,⟨some 57, .load false 1 (.tmp 56), some (55, false)⟩,⟨some 58, .faddr 0 (.tmp 10), some (55, false)⟩,⟨some 59, .load false 1 (.tmp 58), some (55, false)⟩,⟨some 60, .call (.cst (.fn (.func 37) [] [])) [.tmp 57, .tmp 59], some (55, false)⟩,⟨some 61, .not (.tmp 60), some (55, false)⟩,⟨some 62, .pick (.tmp 55) (.cst (.bool true)) (.tmp 61), none⟩]
def joinerylaw08_RunAnswers.k9 : LCode := .seq (.text [⟨some 6, .mv (.cst (.bool false)), none⟩]) .ret
def joinerylaw08_RunAnswers.k10 : LCode := .seq joinerylaw08_RunAnswers.k8 (.cond (.tmp 62) joinerylaw08_RunAnswers.k9 .skip)
def joinerylaw08_RunAnswers.k11 : LCode := .text [⟨some 63, .faddr 1 (.tmp 7), none⟩,⟨some 64, .faddr 0 (.tmp 63), none⟩,⟨some 65, .load false 1 (.tmp 64), none⟩,⟨some 66, .bin .eql .other (.tmp 65) (.cst (.int .i64 5)), none⟩,⟨some 67, .mv (.tmp 66), none⟩,⟨some 68, .load true 6 (.tmp 7), some (67, false)⟩,⟨some 69, .load true 6 (.tmp 10), some (67, false)⟩,⟨some 70, .call (.cst (.fn (.func 35) [] [])) [.tmp 68, .tmp 69], some (67, false)⟩,⟨some 71, .pick (.tmp 67) (.cst (.bool true)) (.tmp 70), none⟩,⟨some 72, .mv (.tmp 71), none⟩,⟨some 73, .call (.cst (.fn (.func 28) [] [])) [], some (72, true)⟩,⟨some 74, .pick (.tmp 72) (.tmp 73) (.cst (.bool false)), none⟩,⟨some 6, .mv (.tmp 74), none⟩]
def joinerylaw08_RunAnswers.k12 : LCode := .seq joinerylaw08_RunAnswers.k10 (.seq joinerylaw08_RunAnswers.k11 .ret)
def joinerylaw08_RunAnswers.k13 : LCode := .seq joinerylaw08_RunAnswers.k6 (.seq joinerylaw08_RunAnswers.k7 joinerylaw08_RunAnswers.k12)
def joinerylaw08_RunAnswers.k14 : LCode := .seq (.seq joinerylaw08_RunAnswers.k2 joinerylaw08_RunAnswers.k4) (.seq joinerylaw08_RunAnswers.k5 joinerylaw08_RunAnswers.k13)
def joinerylaw08_RunAnswers.lc : LCode :=
 .seq joinerylaw08_RunAnswers.k1 joinerylaw08_RunAnswers.k14
theorem joinerylaw08_RunAnswers.low : lowFn Tryd.prog 13 = some (75, joinerylaw08_RunAnswers.lc, [.tmp 6]) := by kernel_rfl


end Go.Proofs.YtbkbehkjndmabaaDoor
/-
  run: traces; the document's beginning; whether two traces are alike, whether events begin others.
-/
namespace Go.Proofs.YtbkbehkjndmabaaDoor
open Go.RowKit
set_option linter.unusedVariables false
set_option linter.unusedSimpArgs false
theorem ref08_Begins_ok (a b : List Ev) (hl : a.length ≤ 9223372036854775806) : Pure Tryd.prog 37 [evs a, evs b] (.bool (decide (a.length ≤ b.length) && decide (a = b.take a.length))) := by
  intro H
  refine ACalls.go joineryref08_Begins.low (by simp) fun hcl => ?_
  have h1 := ref07_SameEvents_ok a (b.take a.length) hl
  rw [evs_eq, evs_eq] at *
  rw [List.map_take] at h1
  by_cases k1 : (a.length : Int) ≤ (b.length : Int)
  · rw [decide_eq_true (show a.length ≤ b.length by omega), Bool.true_and]
    generalize decide (a = b.take a.length) = r at *
    have k2 : a.length ≤ b.length := by omega
    have k3 : b.map encEv = [] ∨ ((b.map encEv).headD []).length = 3 := by
      cases b
      · exact .inl rfl
      · exact .inr rfl
    clear hl
    replace h1 := Hold.mk h1
    repeat' (first | simp only [seval, evx, beq_self_eq_true, sb, ew, ec, evs_eq, encEv_def, List.map_nil, Nat.mul_one, *] | simp (disch := omega) only [if_pos, if_neg] | refine R.seq ?_ | refine LCB.text ?_ | refine LCB.quiet rfl ?_ | refine R.anyX ?_ | refine R.block ?_ | refine LCB.skip ?_ | refine LCB.exit ?_ | refine LCB.ret ?_ | ((first | refine RetOk.val hcl ?_ | refine Weak.at hcl ?_); simp only [seval, evw, List.forall_mem_cons, List.forall_mem_map, List.forall_mem_append, List.not_mem_nil, sb, ew, ec, evs_eq, encEv_def, List.map_nil, Nat.mul_one, *]) | ((first | refine LCB.cond (by simp only [seval, evx] <;> rfl) ?_ ?_ | refine wpG_split (by simp only [seval, evx] <;> rfl) ?_ ?_ | refine wxG_split (by simp only [seval, evx] <;> rfl) ?_ ?_) <;> (intro hc; try simp only [seval, nf] at hc)) | refine ACalls.inst ?_ | refine CallX.inst ?_ | (with_reducible refine And.intro ?_ ?_) | exact True.intro | refine ACalls.pure h1.of ?_ | refine CallX.pure h1.of ?_ | refine ACalls.pure h2.of ?_ | refine CallX.pure h2.of ?_)
  · rw [decide_eq_false (show ¬ a.length ≤ b.length by omega), Bool.false_and]
    generalize decide (a = b.take a.length) = r at *
    clear hl
    replace h1 := Hold.mk h1
    repeat' (first | simp only [seval, evx, beq_self_eq_true, sb, ew, ec, evs_eq, encEv_def, List.map_nil, Nat.mul_one, *] | simp (disch := omega) only [if_pos, if_neg] | refine R.seq ?_ | refine LCB.text ?_ | refine LCB.quiet rfl ?_ | refine R.anyX ?_ | refine R.block ?_ | refine LCB.skip ?_ | refine LCB.exit ?_ | refine LCB.ret ?_ | ((first | refine RetOk.val hcl ?_ | refine Weak.at hcl ?_); simp only [seval, evw, List.forall_mem_cons, List.forall_mem_map, List.forall_mem_append, List.not_mem_nil, sb, ew, ec, evs_eq, encEv_def, List.map_nil, Nat.mul_one, *]) | ((first | refine LCB.cond (by simp only [seval, evx] <;> rfl) ?_ ?_ | refine wpG_split (by simp only [seval, evx] <;> rfl) ?_ ?_ | refine wxG_split (by simp only [seval, evx] <;> rfl) ?_ ?_) <;> (intro hc; try simp only [seval, nf] at hc)) | refine ACalls.inst ?_ | refine CallX.inst ?_ | (with_reducible refine And.intro ?_ ?_) | exact True.intro | refine ACalls.pure h1.of ?_ | refine CallX.pure h1.of ?_ | refine ACalls.pure h2.of ?_ | refine CallX.pure h2.of ?_)
end Go.Proofs.YtbkbehkjndmabaaDoor

/-
  step: more plain laws of a step.
-/
namespace Go.Proofs.YtbkbehkjndmabaaDoor
open Go.RowKit
set_option linter.unusedVariables false
set_option linter.unusedSimpArgs false
theorem stepW_ends {s : St} {x : Ins} {ask : List Int} (h0 : ¬ (stepW s x ask).2.2.1 = 0) : (stepW s x ask).1 = s ∧ (stepW s x ask).2.1 = [] ∧ 1 ≤ (stepW s x ask).2.2.1 ∧ (stepW s x ask).2.2.1 ≤ 5 := by
  have h1 := hLoad_how s.heap (s.L.getD x.a.toNat noW).v
  have h2 := hStore_how s.heap (s.L.getD x.a.toNat noW).v (s.L.getD x.b.toNat noW).v
  have h3 := numDo_how x.op (s.L.getD x.a.toNat noW).v (s.L.getD x.b.toNat noW).v
  revert h0
  unfold stepW
  simp only
  generalize hLoad s.heap (s.L.getD x.a.toNat noW).v = p at *
  generalize hStore s.heap (s.L.getD x.a.toNat noW).v (s.L.getD x.b.toNat noW).v = q at *
  generalize numDo x.op (s.L.getD x.a.toNat noW).v (s.L.getD x.b.toNat noW).v = r at *
  obtain ⟨p1, p2⟩ := p
  obtain ⟨q1, q2⟩ := q
  obtain ⟨r1, r2⟩ := r
  simp only at h1 h2 h3 ⊢
  (repeat' split) <;> simp <;> omega
theorem stepF_ends {f : List Ins} {s : St} {ask : List Int} (h0 : ¬ (stepF f s ask).2.2.how = 0) : (stepF f s ask).1 = s ∧ (stepF f s ask).2.1 = [] ∧ 1 ≤ (stepF f s ask).2.2.how ∧ (stepF f s ask).2.2.how ≤ 5 := by
  unfold stepF at h0 ⊢
  split at h0
  · rename_i h
    rw [if_pos h]
    exact stepW_ends h0
  · rename_i h
    rw [if_neg h]
    simp
/-- Answers behind those that there are. -/
theorem stepF_more {f : List Ins} {s : St} {ask more : List Int} (h0 : 0 ≤ s.asked) (h : ¬ (stepF f s ask).2.2.how = 5) : stepF f s (ask ++ more) = stepF f s ask := by
  unfold stepF at h ⊢
  split
  · rename_i hu
    rw [if_pos hu] at h
    have e : stepW s (f.getD s.pc.toNat noIns) (ask ++ more) = stepW s (f.getD s.pc.toNat noIns) ask := by
      simp only at h
      revert h
      generalize f.getD s.pc.toNat noIns = x
      intro h
      unfold stepW at h ⊢
      simp only at h ⊢
      by_cases o15 : x.op = 15
      · have n13 : ¬ x.op = 13 := by omega
        have n14 : ¬ x.op = 14 := by omega
        rw [if_neg n13, if_neg n14, if_pos o15] at h
        rw [if_neg n13, if_neg n14, if_pos o15, if_neg n13, if_neg n14, if_pos o15]
        by_cases hlt : s.asked < (ask.length : Int)
        · have hlt2 : s.asked < ((ask ++ more).length : Int) := by rw [List.length_append]; omega
          rw [if_pos hlt2, if_pos hlt]
          have : (ask ++ more).getD s.asked.toNat 0 = ask.getD s.asked.toNat 0 := by
            rw [List.getD_eq_getElem?_getD, List.getElem?_append_left (by omega), List.getD_eq_getElem?_getD]
          rw [this]
        · rw [if_neg hlt] at h; simp at h
      · simp only [if_neg o15]
    rw [e]
  · rfl
end Go.Proofs.YtbkbehkjndmabaaDoor

/-
  The last step: cases. RunRuns, of every function and case.
-/
namespace Go.Proofs.YtbkbehkjndmabaaDoor
open Go.ChangeShapes Go.WideShapes Go.ChangeAt Go.RowKit
set_option linter.unusedVariables false
set_option linter.unusedSimpArgs false
theorem fit_nums {rest : List Sh} : ∀ (n : Nat) (r : List AV), FitR (List.replicate n (.int .i64) ++ rest) r → ∃ (R : List Int) (r' : List AV), r = ic R ++ r' ∧ R.length = n ∧ (∀ x ∈ R, in64 x) ∧ FitR rest r'
  | 0, r, h => ⟨[], r, rfl, rfl, by simp, by simpa using h⟩
  | n + 1, r, h => by
    have e : List.replicate (n + 1) (Sh.int .i64) ++ rest = .int .i64 :: (List.replicate n (.int .i64) ++ rest) := by rw [List.replicate_succ]; rfl
    rw [e] at h
    obtain ⟨a, r1, rfl, h1, h2⟩ := h.cons_inv
    obtain ⟨v, rfl, hv⟩ := h1.i64
    obtain ⟨R, r', rfl, h5, h6, h7⟩ := fit_nums n r1 h2
    exact ⟨v :: R, r', rfl, by simp [h5], by simpa using ⟨hv, h6⟩, h7⟩
abbrev csSh : List Sh := List.replicate 8 (.int .i64) ++ [.list [.int .i64], .list [.int .i64], .int .i64]
theorem FitA.cs {a : AV} (h : FitA (.agg csSh) a) : ∃ c : Cs, a = csA c ∧ c.R.length = 8 ∧ c.heap.length ≤ maxLen ∧ c.ans.length ≤ maxLen ∧ in64 c.fuel := by
  obtain ⟨r, rfl, hr⟩ := h
  obtain ⟨R, r1, rfl, h1, h2, h3⟩ := fit_nums 8 r hr
  obtain ⟨a, r2, rfl, g1, g2⟩ := h3.cons_inv
  obtain ⟨b, r3, rfl, g3, g4⟩ := g2.cons_inv
  obtain ⟨c, r4, rfl, g5, g6⟩ := g4.cons_inv
  have := g6.nil_inv
  subst this
  obtain ⟨hp, rfl, k1, k2⟩ := g1.ints
  obtain ⟨an, rfl, k3, k4⟩ := g3.ints
  obtain ⟨fu, rfl, k5⟩ := g5.i64
  exact ⟨⟨R, hp, an, fu⟩, rfl, h1, k2, k4, k5⟩
theorem onF_inv (f : List Ins) (ans : List Int) : ∀ (n : Nat) (s : St) (t : Tr) (K : Nat), t.out.heap.length ≤ K → s.heap.length ≤ K →
    (onF f ans n s t).2.L.length = s.L.length ∧ (onF f ans n s t).2.heap.length = s.heap.length ∧ (onF f ans n s t).1.evs.length ≤ t.evs.length + n ∧ (onF f ans n s t).1.out.heap.length ≤ K
  | 0, s, t, K, h1, h2 => ⟨rfl, rfl, Nat.le_refl _, h1⟩
  | n + 1, s, t, K, h1, h2 => by
    unfold onF
    split
    · have i1 := stepF_len f s ans
      have i2 := stepF_heap f s ans
      have i3 := stepF_evs f s ans
      have i4 := stepF_out f s ans
      have h := onF_inv f ans n (stepF f s ans).1 (nextT f ans s t) K (by show (stepF f s ans).2.2.heap.length ≤ K; omega) (by omega)
      have e : (nextT f ans s t).evs.length = t.evs.length + (stepF f s ans).2.1.length := List.length_append
      obtain ⟨j1, j2, j3, j4⟩ := h
      exact ⟨by omega, by omega, by omega, j4⟩
    · exact ⟨rfl, rfl, Nat.le_add_right _ _, h1⟩
theorem runF_inv {f : List Ins} {c : Cs} (hR : c.R.length = 8) (hf : c.fuel ≤ 5000) : (runF f c).2.L.length = 24 ∧ (runF f c).2.heap.length = c.heap.length ∧ (runF f c).1.evs.length ≤ 5000 ∧ (runF f c).1.out.heap.length ≤ c.heap.length := by
  obtain ⟨h1, h2, h3, h4⟩ := onF_inv f c.ans c.fuel.toNat (beginS c) tr0 c.heap.length (Nat.zero_le _) (Nat.le_refl _)
  refine ⟨by rw [← beginS_len hR]; exact h1, h2, ?_, h4⟩
  have e : tr0.evs.length = 0 := rfl
  rw [e] at h3
  have : (runF f c).1.evs.length ≤ 0 + c.fuel.toNat := h3
  omega
theorem great8_not {f : List Ins} {c : Cs} (h : ¬ csGreat f c = true) : f.length ≤ 300 ∧ c.heap.length ≤ 100 ∧ c.ans.length ≤ 1000 ∧ (c.fuel ≤ 1000 ∨ 5000 < c.fuel) := by
  unfold csGreat at h
  simp only [Bool.or_eq_true, Bool.and_eq_true, decide_eq_true_eq, not_or, not_and] at h
  obtain ⟨h1, h2, h3, h4⟩ := h
  refine ⟨by omega, by omega, by omega, ?_⟩
  by_cases h5 : 1000 < c.fuel
  · have := h4 h5
    omega
  · omega
end Go.Proofs.YtbkbehkjndmabaaDoor

/-
  run: laws of steps one after another.
-/
namespace Go.Proofs.YtbkbehkjndmabaaDoor
open Go.RowKit
set_option linter.unusedVariables false
set_option linter.unusedSimpArgs false
theorem onF_stop {f : List Ins} {ans : List Int} {s : St} {t : Tr} (h : ¬ t.out.how = 0) : ∀ n : Nat, onF f ans n s t = (t, s)
  | 0 => rfl
  | n + 1 => by rw [onF, if_neg h]
theorem onF_count (f : List Ins) (ans : List Int) : ∀ (n : Nat) (s : St) (t : Tr), t.steps ≤ (onF f ans n s t).1.steps ∧ (onF f ans n s t).1.steps ≤ t.steps + (n : Int) ∧ ((onF f ans n s t).1.out.how = 0 → (onF f ans n s t).1.steps = t.steps + (n : Int)) ∧
    t.work ≤ (onF f ans n s t).1.work ∧ (onF f ans n s t).1.work - t.work ≤ (onF f ans n s t).1.steps - t.steps
  | 0, s, t => by
    show t.steps ≤ t.steps ∧ t.steps ≤ t.steps + ((0 : Nat) : Int) ∧ (t.out.how = 0 → t.steps = t.steps + ((0 : Nat) : Int)) ∧ t.work ≤ t.work ∧ t.work - t.work ≤ t.steps - t.steps
    refine ⟨by omega, by omega, fun _ => by omega, by omega, by omega⟩
  | n + 1, s, t => by
    by_cases h : t.out.how = 0
    · rw [onF, if_pos h]
      obtain ⟨h1, h2, h3, h4, h5⟩ := onF_count f ans n (stepF f s ans).1 (nextT f ans s t)
      have e1 : (nextT f ans s t).steps = t.steps + 1 := rfl
      have e2 : t.work ≤ (nextT f ans s t).work ∧ (nextT f ans s t).work ≤ t.work + 1 := by
        unfold nextT
        simp only
        split <;> constructor <;> omega
      rw [e1] at h1 h2 h3 h5
      refine ⟨by omega, by omega, fun g => by have := h3 g; omega, by omega, by omega⟩
    · rw [onF_stop h]
      refine ⟨Int.le_refl _, by show t.steps ≤ _; omega, fun g => absurd g h, Int.le_refl _, by show t.work - t.work ≤ t.steps - t.steps; omega⟩
theorem onF_pre (f : List Ins) (ans : List Int) : ∀ (n : Nat) (s : St) (t : Tr), ∃ l, (onF f ans n s t).1.evs = t.evs ++ l
  | 0, s, t => ⟨[], by rw [List.append_nil]; rfl⟩
  | n + 1, s, t => by
    by_cases h : t.out.how = 0
    · rw [onF, if_pos h]
      obtain ⟨l, hl⟩ := onF_pre f ans n (stepF f s ans).1 (nextT f ans s t)
      exact ⟨(stepF f s ans).2.1 ++ l, by rw [hl, ← List.append_assoc]; rfl⟩
    · rw [onF_stop h]
      exact ⟨[], by rw [List.append_nil]⟩
theorem runF_count {f : List Ins} {c : Cs} (h : 0 ≤ c.fuel) : 0 ≤ (runF f c).1.steps ∧ (runF f c).1.steps ≤ c.fuel ∧ ((runF f c).1.out.how = 0 → (runF f c).1.steps = c.fuel) ∧ 0 ≤ (runF f c).1.work ∧ (runF f c).1.work ≤ (runF f c).1.steps := by
  obtain ⟨h1, h2, h3, h4, h5⟩ := onF_count f c.ans c.fuel.toNat (beginS c) tr0
  have e : onF f c.ans c.fuel.toNat (beginS c) tr0 = runF f c := rfl
  have e1 : tr0.steps = 0 := rfl
  have e2 : tr0.work = 0 := rfl
  rw [e, e1] at h1 h2 h3 h5
  rw [e, e2] at h4
  rw [e2] at h5
  refine ⟨h1, by omega, fun g => by have := h3 g; omega, h4, by omega⟩
end Go.Proofs.YtbkbehkjndmabaaDoor

/-
  run: with more answers.
-/
namespace Go.Proofs.YtbkbehkjndmabaaDoor
open Go.RowKit
set_option linter.unusedVariables false
set_option linter.unusedSimpArgs false
theorem stepF_still {f : List Ins} {s : St} {ans : List Int} (h : stRight f s = true) : stRight f (stepF f s ans).1 = true := by
  by_cases h0 : (stepF f s ans).2.2.how = 0
  · exact stepF_right h h0
  · rw [(stepF_ends h0).1]
    exact h
theorem onF_ans (f : List Ins) (ans more : List Int) : ∀ (n : Nat) (s : St) (t : Tr), stRight f s = true → (¬ (onF f ans n s t).1.out.how = 5 → onF f (ans ++ more) n s t = onF f ans n s t) ∧ ∃ l, (onF f (ans ++ more) n s t).1.evs = (onF f ans n s t).1.evs ++ l
  | 0, s, t, hs => ⟨fun _ => rfl, [], by rw [List.append_nil]; rfl⟩
  | n + 1, s, t, hs => by
    by_cases h : t.out.how = 0
    · have e : ∀ a : List Int, onF f a (n + 1) s t = onF f a n (stepF f s a).1 (nextT f a s t) := fun a => by rw [onF, if_pos h]
      by_cases h5 : (stepF f s ans).2.2.how = 5
      · have hne : ¬ (stepF f s ans).2.2.how = 0 := by omega
        have hno : (stepF f s ans).2.1 = [] := (stepF_ends hne).2.1
        have hst : onF f ans (n + 1) s t = (nextT f ans s t, (stepF f s ans).1) := by rw [e]; exact onF_stop hne n
        obtain ⟨l, hl⟩ := onF_pre f (ans ++ more) (n + 1) s t
        refine ⟨fun g => ?_, l, ?_⟩
        · rw [hst] at g
          exact absurd h5 g
        · rw [hl, hst]
          show t.evs ++ l = (t.evs ++ (stepF f s ans).2.1) ++ l
          rw [hno, List.append_nil]
      · have hm : stepF f s (ans ++ more) = stepF f s ans := stepF_more (stRight_iff.1 hs).2.2.2.2.1 h5
        have hn : nextT f (ans ++ more) s t = nextT f ans s t := by unfold nextT; rw [hm]
        rw [e, e, hm, hn]
        exact onF_ans f ans more n _ _ (stepF_still hs)
    · rw [onF_stop h, onF_stop h]
      exact ⟨fun _ => rfl, [], by rw [List.append_nil]⟩
theorem runF_ans {f : List Ins} {R hp an more : List Int} {fu : Int} (hs : stRight f (beginS ⟨R, hp, an, fu⟩) = true) :
    (¬ (runF f ⟨R, hp, an, fu⟩).1.out.how = 5 → runF f ⟨R, hp, an ++ more, fu⟩ = runF f ⟨R, hp, an, fu⟩) ∧ ∃ l, (runF f ⟨R, hp, an ++ more, fu⟩).1.evs = (runF f ⟨R, hp, an, fu⟩).1.evs ++ l :=
  onF_ans f an more fu.toNat (beginS ⟨R, hp, an, fu⟩) tr0 hs
end Go.Proofs.YtbkbehkjndmabaaDoor

