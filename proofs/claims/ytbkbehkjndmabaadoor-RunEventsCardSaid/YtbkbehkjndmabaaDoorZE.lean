/-
  Texts of this claim, put together.
-/
import Derived.Test.YtbkbehkjndmabaaDoorProg
import Derived.KernelRfl
import Derived.Test.YtbkbehkjndmabaaDoorZ9
/-
  The seat's functions, made plain (printed by a program of this claim; each is held against the loaded program by the kernel).
-/
namespace Go.Proofs.YtbkbehkjndmabaaDoor
set_option maxRecDepth 100000
def joinerylaw08_RunEvents.k1 : LCode := .text [⟨some 3, .box (.tmp 1), none⟩,⟨some 4, .mv (.cst (.bool false)), none⟩]
def joinerylaw08_RunEvents.k2 : LCode := .text [⟨some 9, .mv (.tmp 0), none⟩,⟨some 10, .load true 11 (.tmp 3), none⟩,⟨some 11, .call (.cst (.fn (.func 27) [] [])) [.tmp 9, .tmp 10], none⟩,⟨some 12, .mv (.tmp 11), none⟩,⟨some 13, .mv (.tmp 0), some (12, false)⟩,⟨some 14, .load true 11 (.tmp 3), some (12, false)⟩,⟨some 15, .call (.cst (.fn (.func 34) [] [])) [.tmp 13, .tmp 14], some (12, false)⟩,⟨some 16, .not (.tmp 15), some (12, false)⟩,⟨some 17, .pick (.tmp 12) (.cst (.bool true)) (.tmp 16), none⟩]
def joinerylaw08_RunEvents.k3 : LCode := .text [⟨some 18, .call (.cst (.fn (.func 28) [] [])) [], none⟩,⟨some 4, .mv (.tmp 18), none⟩]
def joinerylaw08_RunEvents.k4 : LCode := .seq joinerylaw08_RunEvents.k2 (.cond (.tmp 17) (.seq joinerylaw08_RunEvents.k3 .ret) .skip)
def joinerylaw08_RunEvents.k5 : LCode := .text [⟨some 20, .mv (.tmp 0), none⟩,⟨some 21, .load true 11 (.tmp 3), none⟩,⟨some 22, .call (.cst (.fn (.func 29) [] [])) [.tmp 20, .tmp 21], none⟩,⟨some 19, .mv (.tmp 22), none⟩,⟨some 23, .extract (.tmp 19) 0, none⟩,⟨some 24, .extract (.tmp 19) 1, none⟩,⟨some 25, .extract (.tmp 19) 2, none⟩,⟨some 5, .alloc [.imm (.slice none 0 0), .int .i64 0, .int .i64 0, .imm (.slice none 0 0), .int .i64 0, .int .i64 0], none⟩,⟨some 6, .alloc [.bool false, .int .i64 0, .bool false, .int .i64 0, .bool false, .int .i64 0, .bool false, .int .i64 0, .bool false, .int .i64 0, .bool false, .int .i64 0, .bool false, .int .i64 0, .bool false, .int .i64 0, .bool false, .int .i64 0, .bool false, .int .i64 0, .bool false, .int .i64 0, .bool false, .int .i64 0, .bool false, .int .i64 0, .bool false, .int .i64 0, .bool false, .int .i64 0, .bool false, .int .i64 0, .bool false, .int .i64 0, .bool false, .int .i64 0, .bool false, .int .i64 0, .bool false, .int .i64 0, .bool false, .int .i64 0, .bool false, .int .i64 0, .bool false, .int .i64 0, .bool false, .int .i64 0, .imm (.slice none 0 0), .int .i64 0, .int .i64 0], none⟩,⟨none, .store 6 (.tmp 5) (.tmp 23), none⟩,⟨none, .store 51 (.tmp 6) (.tmp 24), none⟩,⟨some 7, .mv (.tmp 25), none⟩]
def joinerylaw08_RunEvents.k6 : LCode := .text [⟨some 26, .mv (.tmp 7), none⟩,⟨some 27, .bin .neq .other (.tmp 26) (.cst (.int .i64 0)), none⟩,⟨some 28, .mv (.tmp 27), none⟩,⟨some 29, .faddr 50 (.tmp 6), some (28, false)⟩,⟨some 30, .load false 1 (.tmp 29), some (28, false)⟩,⟨some 31, .faddr 0 (.tmp 5), some (28, false)⟩,⟨some 32, .load false 1 (.tmp 31), some (28, false)⟩,⟨some 33, .len .slice (.tmp 32), some (28, false)⟩,⟨some 34, .bin .neq .other (.tmp 30) (.tmp 33), some (28, false)⟩,⟨some 35, .pick (.tmp 28) (.cst (.bool true)) (.tmp 34), none⟩,⟨some 36, .mv (.tmp 35), none⟩,⟨some 37, .faddr 0 (.tmp 5), some (36, false)⟩,⟨some 38, .load false 1 (.tmp 37), some (36, false)⟩,⟨some 39, .len .slice (.tmp 38), some (36, false)⟩,⟨some 40, .faddr 9 (.tmp 3), some (36, false)⟩,⟨some 41, .load false 1 (.tmp 40), some (36, false)⟩,⟨some 42, .len .slice (.tmp 41), some (36, false)⟩,⟨some 43, .bin .gtr .other (.tmp 39) (.tmp 42), some (36, false)⟩,⟨some 44, .pick (.tmp 36) (.cst (.bool true)) (.tmp 43), none⟩]
def joinerylaw08_RunEvents.k7 : LCode := .seq (.text [⟨some 4, .mv (.cst (.bool false)), none⟩]) .ret
def joinerylaw08_RunEvents.k8 : LCode := .seq joinerylaw08_RunEvents.k6 (.cond (.tmp 44) joinerylaw08_RunEvents.k7 .skip)
def joinerylaw08_RunEvents.k9 : LCode := .text [⟨some 45, .mv (.tmp 8), none⟩,⟨some 46, .faddr 0 (.tmp 5), none⟩,⟨some 47, .load false 1 (.tmp 46), none⟩,⟨some 48, .len .slice (.tmp 47), none⟩,⟨some 49, .bin .lss .other (.tmp 45) (.tmp 48), none⟩]
def joinerylaw08_RunEvents.k10 : LCode := .seq joinerylaw08_RunEvents.k9 (.cond (.tmp 49) .skip (.exit 0))
def joinerylaw08_RunEvents.k11 : LCode := .any true [⟨some 52, .faddr 0 (.tmp 5), none⟩,⟨some 53, .load false 1 (.tmp 52), none⟩,⟨some 54, .mv (.tmp 8), none⟩,⟨some 55, .iaddrS 3 (.tmp 53) (.tmp 54), none⟩,⟨some 56, .faddr 2 (.tmp 55), none⟩,⟨some 57, .load false 1 (.tmp 56), none⟩,⟨some 58, .faddr 9 (.tmp 3), none⟩,⟨some 59, .load false 1 (.tmp 58), none⟩,⟨some 60, .mv (.tmp 8), none⟩,⟨some 61, .iaddrS 1 (.tmp 59) (.tmp 60), none⟩,⟨some 62, .load false 1 (.tmp 61), none⟩,⟨some 63, .bin .neq .other (.tmp 57) (.tmp 62), none⟩,⟨some 64, .mv (.tmp 63), none⟩,⟨some 65, .faddr 0 (.tmp 5), some (64, false)⟩,⟨some 66, .load false 1 (.tmp 65), some (64, false)⟩,⟨some 67, .mv (.tmp 8), some (64, false)⟩,⟨some 68, .iaddrS 3 (.tmp 66) (.tmp 67), some (64, false)⟩,⟨some 69, .faddr 0 (.tmp 68), some (64, false)⟩,⟨some 70, .load false 1 (.tmp 69), some (64, false)⟩,⟨some 71, .bin .lss .other (.tmp 70) (.cst (.int .i64 0)), some (64, false)⟩,⟨some 72, .pick (.tmp 64) (.cst (.bool true)) (.tmp 71), none⟩,⟨some 73, .mv (.tmp 72), none⟩,⟨some 74, .faddr 0 (.tmp 5), some (73, false)⟩,⟨some 75, .load false 1 (.tmp 74), some (73, false)⟩,⟨some 76, .mv (.tmp 8), some (73, false)⟩,⟨some 77, .iaddrS 3 (.tmp 75) (.tmp 76), some (73, false)⟩,⟨some 78, .faddr 0 (.tmp 77), some (73, false)⟩,⟨some 79, .load false 1 (.tmp 78), some (73, false)⟩,⟨some 80, .bin .gtr .other (.tmp 79) (.cst (.int .i64 99)), some (73, false)⟩,⟨some 81, .pick (.tmp 73) (.cst (.bool true)) (.tmp 80), none⟩] (.both .no .no)
def joinerylaw08_RunEvents.k12 : LCode := .seq (.text [⟨some 4, .mv (.cst (.bool false)), none⟩]) .ret
def joinerylaw08_RunEvents.k13 : LCode := .seq joinerylaw08_RunEvents.k11 (.cond (.tmp 81) joinerylaw08_RunEvents.k12 .skip)
def joinerylaw08_RunEvents.k14 : LCode := .text [⟨some 50, .mv (.tmp 8), none⟩,⟨some 51, .bin .add .other (.tmp 50) (.cst (.int .i64 1)), none⟩,⟨some 8, .mv (.tmp 51), none⟩]
def joinerylaw08_RunEvents.k15 : LCode := .seq (.block 1 joinerylaw08_RunEvents.k13) joinerylaw08_RunEvents.k14
def joinerylaw08_RunEvents.k16 : LCode := .loop (.seq joinerylaw08_RunEvents.k10 joinerylaw08_RunEvents.k15)
def joinerylaw08_RunEvents.k17 : LCode := .seq (.text [⟨some 8, .mv (.cst (.int .i64 0)), none⟩]) (.block 0 joinerylaw08_RunEvents.k16)
def joinerylaw08_RunEvents.k18 : LCode := .text [⟨some 82, .call (.cst (.fn (.func 28) [] [])) [], none⟩,⟨some 4, .mv (.tmp 82), none⟩]
def joinerylaw08_RunEvents.k19 : LCode := .seq joinerylaw08_RunEvents.k17 (.seq joinerylaw08_RunEvents.k18 .ret)
def joinerylaw08_RunEvents.k20 : LCode := .seq joinerylaw08_RunEvents.k5 (.seq joinerylaw08_RunEvents.k8 joinerylaw08_RunEvents.k19)
def joinerylaw08_RunEvents.lc : LCode :=
 .seq joinerylaw08_RunEvents.k1 (.seq joinerylaw08_RunEvents.k4 joinerylaw08_RunEvents.k20)
theorem joinerylaw08_RunEvents.low : lowFn Tryd.prog 14 = some (83, joinerylaw08_RunEvents.lc, [.tmp 4]) := by kernel_rfl


end Go.Proofs.YtbkbehkjndmabaaDoor
/-
  step: more plain laws of a step.
-/
namespace Go.Proofs.YtbkbehkjndmabaaDoor
open Go.RowKit
set_option linter.unusedVariables false
set_option linter.unusedSimpArgs false
theorem stepW_ends {s : St} {x : Ins} {ask : List Int} (h0 : ¬ (stepW s x ask).2.2.1 = 0) : (stepW s x ask).1 = s ∧ (stepW s x ask).2.1 = [] ∧ 1 ≤ (stepW s x ask).2.2.1 ∧ (stepW s x ask).2.2.1 ≤ 5 := by
  have h1 := hLoad_how s.heap (s.L.getD x.a.toNat noW).v
  have h2 := hStore_how s.heap (s.L.getD x.a.toNat noW).v (s.L.getD x.b.toNat noW).v
  have h3 := numDo_how x.op (s.L.getD x.a.toNat noW).v (s.L.getD x.b.toNat noW).v
  revert h0
  unfold stepW
  simp only
  generalize hLoad s.heap (s.L.getD x.a.toNat noW).v = p at *
  generalize hStore s.heap (s.L.getD x.a.toNat noW).v (s.L.getD x.b.toNat noW).v = q at *
  generalize numDo x.op (s.L.getD x.a.toNat noW).v (s.L.getD x.b.toNat noW).v = r at *
  obtain ⟨p1, p2⟩ := p
  obtain ⟨q1, q2⟩ := q
  obtain ⟨r1, r2⟩ := r
  simp only at h1 h2 h3 ⊢
  (repeat' split) <;> simp <;> omega
theorem stepF_ends {f : List Ins} {s : St} {ask : List Int} (h0 : ¬ (stepF f s ask).2.2.how = 0) : (stepF f s ask).1 = s ∧ (stepF f s ask).2.1 = [] ∧ 1 ≤ (stepF f s ask).2.2.how ∧ (stepF f s ask).2.2.how ≤ 5 := by
  unfold stepF at h0 ⊢
  split at h0
  · rename_i h
    rw [if_pos h]
    exact stepW_ends h0
  · rename_i h
    rw [if_neg h]
    simp
end Go.Proofs.YtbkbehkjndmabaaDoor

/-
  The last step: cases. RunRuns, of every function and case.
-/
namespace Go.Proofs.YtbkbehkjndmabaaDoor
open Go.ChangeShapes Go.WideShapes Go.ChangeAt Go.RowKit
set_option linter.unusedVariables false
set_option linter.unusedSimpArgs false
theorem fit_nums {rest : List Sh} : ∀ (n : Nat) (r : List AV), FitR (List.replicate n (.int .i64) ++ rest) r → ∃ (R : List Int) (r' : List AV), r = ic R ++ r' ∧ R.length = n ∧ (∀ x ∈ R, in64 x) ∧ FitR rest r'
  | 0, r, h => ⟨[], r, rfl, rfl, by simp, by simpa using h⟩
  | n + 1, r, h => by
    have e : List.replicate (n + 1) (Sh.int .i64) ++ rest = .int .i64 :: (List.replicate n (.int .i64) ++ rest) := by rw [List.replicate_succ]; rfl
    rw [e] at h
    obtain ⟨a, r1, rfl, h1, h2⟩ := h.cons_inv
    obtain ⟨v, rfl, hv⟩ := h1.i64
    obtain ⟨R, r', rfl, h5, h6, h7⟩ := fit_nums n r1 h2
    exact ⟨v :: R, r', rfl, by simp [h5], by simpa using ⟨hv, h6⟩, h7⟩
abbrev csSh : List Sh := List.replicate 8 (.int .i64) ++ [.list [.int .i64], .list [.int .i64], .int .i64]
theorem FitA.cs {a : AV} (h : FitA (.agg csSh) a) : ∃ c : Cs, a = csA c ∧ c.R.length = 8 ∧ c.heap.length ≤ maxLen ∧ c.ans.length ≤ maxLen ∧ in64 c.fuel := by
  obtain ⟨r, rfl, hr⟩ := h
  obtain ⟨R, r1, rfl, h1, h2, h3⟩ := fit_nums 8 r hr
  obtain ⟨a, r2, rfl, g1, g2⟩ := h3.cons_inv
  obtain ⟨b, r3, rfl, g3, g4⟩ := g2.cons_inv
  obtain ⟨c, r4, rfl, g5, g6⟩ := g4.cons_inv
  have := g6.nil_inv
  subst this
  obtain ⟨hp, rfl, k1, k2⟩ := g1.ints
  obtain ⟨an, rfl, k3, k4⟩ := g3.ints
  obtain ⟨fu, rfl, k5⟩ := g5.i64
  exact ⟨⟨R, hp, an, fu⟩, rfl, h1, k2, k4, k5⟩
theorem onF_inv (f : List Ins) (ans : List Int) : ∀ (n : Nat) (s : St) (t : Tr) (K : Nat), t.out.heap.length ≤ K → s.heap.length ≤ K →
    (onF f ans n s t).2.L.length = s.L.length ∧ (onF f ans n s t).2.heap.length = s.heap.length ∧ (onF f ans n s t).1.evs.length ≤ t.evs.length + n ∧ (onF f ans n s t).1.out.heap.length ≤ K
  | 0, s, t, K, h1, h2 => ⟨rfl, rfl, Nat.le_refl _, h1⟩
  | n + 1, s, t, K, h1, h2 => by
    unfold onF
    split
    · have i1 := stepF_len f s ans
      have i2 := stepF_heap f s ans
      have i3 := stepF_evs f s ans
      have i4 := stepF_out f s ans
      have h := onF_inv f ans n (stepF f s ans).1 (nextT f ans s t) K (by show (stepF f s ans).2.2.heap.length ≤ K; omega) (by omega)
      have e : (nextT f ans s t).evs.length = t.evs.length + (stepF f s ans).2.1.length := List.length_append
      obtain ⟨j1, j2, j3, j4⟩ := h
      exact ⟨by omega, by omega, by omega, j4⟩
    · exact ⟨rfl, rfl, Nat.le_add_right _ _, h1⟩
theorem runF_inv {f : List Ins} {c : Cs} (hR : c.R.length = 8) (hf : c.fuel ≤ 5000) : (runF f c).2.L.length = 24 ∧ (runF f c).2.heap.length = c.heap.length ∧ (runF f c).1.evs.length ≤ 5000 ∧ (runF f c).1.out.heap.length ≤ c.heap.length := by
  obtain ⟨h1, h2, h3, h4⟩ := onF_inv f c.ans c.fuel.toNat (beginS c) tr0 c.heap.length (Nat.zero_le _) (Nat.le_refl _)
  refine ⟨by rw [← beginS_len hR]; exact h1, h2, ?_, h4⟩
  have e : tr0.evs.length = 0 := rfl
  rw [e] at h3
  have : (runF f c).1.evs.length ≤ 0 + c.fuel.toNat := h3
  omega
theorem great8_not {f : List Ins} {c : Cs} (h : ¬ csGreat f c = true) : f.length ≤ 300 ∧ c.heap.length ≤ 100 ∧ c.ans.length ≤ 1000 ∧ (c.fuel ≤ 1000 ∨ 5000 < c.fuel) := by
  unfold csGreat at h
  simp only [Bool.or_eq_true, Bool.and_eq_true, decide_eq_true_eq, not_or, not_and] at h
  obtain ⟨h1, h2, h3, h4⟩ := h
  refine ⟨by omega, by omega, by omega, ?_⟩
  by_cases h5 : 1000 < c.fuel
  · have := h4 h5
    omega
  · omega
end Go.Proofs.YtbkbehkjndmabaaDoor

/-
  run: laws of steps one after another.
-/
namespace Go.Proofs.YtbkbehkjndmabaaDoor
open Go.RowKit
set_option linter.unusedVariables false
set_option linter.unusedSimpArgs false
theorem onF_stop {f : List Ins} {ans : List Int} {s : St} {t : Tr} (h : ¬ t.out.how = 0) : ∀ n : Nat, onF f ans n s t = (t, s)
  | 0 => rfl
  | n + 1 => by rw [onF, if_neg h]
theorem onF_count (f : List Ins) (ans : List Int) : ∀ (n : Nat) (s : St) (t : Tr), t.steps ≤ (onF f ans n s t).1.steps ∧ (onF f ans n s t).1.steps ≤ t.steps + (n : Int) ∧ ((onF f ans n s t).1.out.how = 0 → (onF f ans n s t).1.steps = t.steps + (n : Int)) ∧
    t.work ≤ (onF f ans n s t).1.work ∧ (onF f ans n s t).1.work - t.work ≤ (onF f ans n s t).1.steps - t.steps
  | 0, s, t => by
    show t.steps ≤ t.steps ∧ t.steps ≤ t.steps + ((0 : Nat) : Int) ∧ (t.out.how = 0 → t.steps = t.steps + ((0 : Nat) : Int)) ∧ t.work ≤ t.work ∧ t.work - t.work ≤ t.steps - t.steps
    refine ⟨by omega, by omega, fun _ => by omega, by omega, by omega⟩
  | n + 1, s, t => by
    by_cases h : t.out.how = 0
    · rw [onF, if_pos h]
      obtain ⟨h1, h2, h3, h4, h5⟩ := onF_count f ans n (stepF f s ans).1 (nextT f ans s t)
      have e1 : (nextT f ans s t).steps = t.steps + 1 := rfl
      have e2 : t.work ≤ (nextT f ans s t).work ∧ (nextT f ans s t).work ≤ t.work + 1 := by
        unfold nextT
        simp only
        split <;> constructor <;> omega
      rw [e1] at h1 h2 h3 h5
      refine ⟨by omega, by omega, fun g => by have := h3 g; omega, by omega, by omega⟩
    · rw [onF_stop h]
      refine ⟨Int.le_refl _, by show t.steps ≤ _; omega, fun g => absurd g h, Int.le_refl _, by show t.work - t.work ≤ t.steps - t.steps; omega⟩
theorem runF_count {f : List Ins} {c : Cs} (h : 0 ≤ c.fuel) : 0 ≤ (runF f c).1.steps ∧ (runF f c).1.steps ≤ c.fuel ∧ ((runF f c).1.out.how = 0 → (runF f c).1.steps = c.fuel) ∧ 0 ≤ (runF f c).1.work ∧ (runF f c).1.work ≤ (runF f c).1.steps := by
  obtain ⟨h1, h2, h3, h4, h5⟩ := onF_count f c.ans c.fuel.toNat (beginS c) tr0
  have e : onF f c.ans c.fuel.toNat (beginS c) tr0 = runF f c := rfl
  have e1 : tr0.steps = 0 := rfl
  have e2 : tr0.work = 0 := rfl
  rw [e, e1] at h1 h2 h3 h5
  rw [e, e2] at h4
  rw [e2] at h5
  refine ⟨h1, by omega, fun g => by have := h3 g; omega, h4, by omega⟩
end Go.Proofs.YtbkbehkjndmabaaDoor

/-
  run: with more answers.
-/
namespace Go.Proofs.YtbkbehkjndmabaaDoor
open Go.RowKit
set_option linter.unusedVariables false
set_option linter.unusedSimpArgs false
theorem stepF_still {f : List Ins} {s : St} {ans : List Int} (h : stRight f s = true) : stRight f (stepF f s ans).1 = true := by
  by_cases h0 : (stepF f s ans).2.2.how = 0
  · exact stepF_right h h0
  · rw [(stepF_ends h0).1]
    exact h
end Go.Proofs.YtbkbehkjndmabaaDoor

/-
  run: what events are.
-/
namespace Go.Proofs.YtbkbehkjndmabaaDoor
open Go.RowKit
set_option linter.unusedVariables false
set_option linter.unusedSimpArgs false
def noE : Ev := ⟨0, 0, 0⟩
theorem call_n {x : Ins} {n : Int} (h : chk x n = 0) (ho : x.op = 15) : 0 ≤ x.n ∧ x.n ≤ 99 := by
  unfold chk at h
  split at h
  · omega
  · rename_i hb
    unfold badForm at hb
    simp only [Bool.or_eq_true, Bool.and_eq_true, decide_eq_true_eq, not_or, not_and, beq_iff_eq] at hb
    obtain ⟨_, h2⟩ := hb
    have := h2 ho
    omega
theorem stepW_evs {s : St} {x : Ins} {ans : List Int} : ((stepW s x ans).2.1 = [] ∧ (stepW s x ans).1.asked = s.asked) ∨
    (x.op = 15 ∧ s.asked < (ans.length : Int) ∧ (stepW s x ans).1.asked = s.asked + 1 ∧ ∃ a, (stepW s x ans).2.1 = [⟨x.n, a, ans.getD s.asked.toNat 0⟩]) := by
  unfold stepW
  simp only
  by_cases o15 : x.op = 15
  · have n13 : ¬ x.op = 13 := by omega
    have n14 : ¬ x.op = 14 := by omega
    rw [if_neg n13, if_neg n14, if_pos o15]
    split
    · rename_i h
      exact .inr ⟨o15, h, rfl, _, rfl⟩
    · exact .inl ⟨rfl, rfl⟩
  · left
    simp only [if_neg o15]
    (repeat' split) <;> first | exact ⟨rfl, rfl⟩ | exact ⟨rfl, setS_asked _ _ _ _⟩ | exact ⟨rfl, moveS_asked _ _⟩
/-- What is so of a run's state and its events. -/
def EvOk (ans : List Int) (s : St) (t : Tr) : Prop :=
  s.asked = (t.evs.length : Int) ∧ t.evs.length ≤ ans.length ∧ ∀ i, i < t.evs.length → (t.evs.getD i noE).ans = ans.getD i 0 ∧ 0 ≤ (t.evs.getD i noE).n ∧ (t.evs.getD i noE).n ≤ 99
theorem EvOk.step {f : List Ins} {ans : List Int} {s : St} {t : Tr} (hs : stRight f s = true) (h : EvOk ans s t) : EvOk ans (stepF f s ans).1 (nextT f ans s t) := by
  obtain ⟨h1, h2, h3⟩ := h
  have hc := (ins_right hs).2.1
  unfold nextT EvOk
  simp only
  unfold stepF
  generalize f.getD s.pc.toNat noIns = x at *
  split
  · simp only
    rcases stepW_evs (s := s) (x := x) (ans := ans) with ⟨e1, e2⟩ | ⟨o, e0, e2, a, e1⟩
    · rw [e1, e2, List.append_nil]
      exact ⟨h1, h2, h3⟩
    · obtain ⟨c1, c2⟩ := call_n hc o
      rw [e1, e2]
      have hl : (t.evs ++ [(⟨x.n, a, ans.getD s.asked.toNat 0⟩ : Ev)]).length = t.evs.length + 1 := by simp
      rw [hl]
      refine ⟨by omega, by omega, fun i hi => ?_⟩
      by_cases hlt : i < t.evs.length
      · have : (t.evs ++ [(⟨x.n, a, ans.getD s.asked.toNat 0⟩ : Ev)]).getD i noE = t.evs.getD i noE := by
          rw [List.getD_eq_getElem?_getD, List.getElem?_append_left hlt, List.getD_eq_getElem?_getD]
        rw [this]
        exact h3 i hlt
      · have hie : i = t.evs.length := by omega
        subst hie
        have : (t.evs ++ [(⟨x.n, a, ans.getD s.asked.toNat 0⟩ : Ev)]).getD t.evs.length noE = ⟨x.n, a, ans.getD s.asked.toNat 0⟩ := by
          rw [List.getD_eq_getElem?_getD, List.getElem?_append_right (Nat.le_refl _), Nat.sub_self]
          rfl
        rw [this, h1, Int.toNat_natCast]
        exact ⟨rfl, c1, c2⟩
  · simp only [List.append_nil]
    exact ⟨h1, h2, h3⟩
theorem onF_evs {f : List Ins} {ans : List Int} : ∀ (n : Nat) (s : St) (t : Tr), stRight f s = true → EvOk ans s t → EvOk ans (onF f ans n s t).2 (onF f ans n s t).1
  | 0, s, t, hs, h => h
  | n + 1, s, t, hs, h => by
    by_cases h0 : t.out.how = 0
    · rw [onF, if_pos h0]
      exact onF_evs n _ _ (stepF_still hs) (h.step hs)
    · rw [onF_stop h0]
      exact h
theorem runF_evs {f : List Ins} {c : Cs} (hs : stRight f (beginS c) = true) : EvOk c.ans (runF f c).2 (runF f c).1 :=
  onF_evs c.fuel.toNat (beginS c) tr0 hs ⟨rfl, Nat.zero_le _, fun i h => absurd h (Nat.not_lt_zero i)⟩
end Go.Proofs.YtbkbehkjndmabaaDoor

