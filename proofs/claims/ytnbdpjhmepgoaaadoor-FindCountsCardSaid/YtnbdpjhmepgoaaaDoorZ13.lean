/-
  Texts of this claim, put together.
-/
import Derived.Laws.BitsLemmas
import Derived.Test.YtnbdpjhmepgoaaaDoorZ12
namespace Go.Proofs.YtnbdpjhmepgoaaaDoor
open Go.RowKit
set_option linter.unusedVariables false
set_option linter.unusedSimpArgs false
def flagI (b : Bool) : Int := if b then 1 else 0
def numDo (op a b : Int) : Int × Int :=
  if op = 4 then (IntKind.i64.wrap (a + b), 0)
  else if op = 5 then (IntKind.i64.wrap (a - b), 0)
  else if op = 6 then (IntKind.i64.wrap (a * b), 0)
  else if op = 7 then (if b = 0 then (0, 3) else (IntKind.i64.wrap (a.tdiv b), 0))
  else if op = 8 then (bits .and .i64 a b, 0)
  else if op = 9 then (bits .or .i64 a b, 0)
  else if op = 10 then (bits .xor .i64 a b, 0)
  else if op = 11 then (flagI (decide (a < b)), 0)
  else if op = 12 then (flagI (decide (a = b)), 0)
  else (0, 2)
def nopR (q : Int × Int) : AV := .tup [.int .i64 q.1, .int .i64 q.2]
theorem num_flag_ok (b : Bool) : Pure Tryd.prog 85 [.bool b] (.int .i64 (flagI b)) := by
  intro H
  refine ACalls.go num_flag.low (by simp) fun hcl => ?_
  cases b
  all_goals
    repeat' (first | simp only [seval, evo, beq_self_eq_true, sb, *] | simp (disch := omega) only [if_pos, if_neg] | refine zG ?_ | refine zH ?_ | refine zI rfl ?_ | refine zJ rfl ?_ | refine zL ?_ | refine zM ?_ | refine zN ?_ | refine zO ?_ | ((first | refine zP hcl ?_ | refine zQ hcl ?_); simp only [seval, evw, fm, sb, *]) | ((first | refine zA ?_ ?_ | refine zC ?_ ?_ | refine zE ?_ ?_) <;> (intro hc; try simp only [seval, nf] at hc)) | refine zR ?_ | refine zS rfl ?_)
    rfl
theorem num_deed1_ok (a b : Int) : Pure Tryd.prog 77 [.int .i64 a, .int .i64 b] (.int .i64 (IntKind.i64.wrap (a + b))) := by
  intro H
  refine ACalls.go num_deeds_1.low (by simp) fun hcl => ?_
  repeat' (first | simp only [seval, evo, beq_self_eq_true, sb, *] | simp (disch := omega) only [if_pos, if_neg] | refine zG ?_ | refine zH ?_ | refine zI rfl ?_ | refine zJ rfl ?_ | refine zL ?_ | refine zM ?_ | refine zN ?_ | refine zO ?_ | ((first | refine zP hcl ?_ | refine zQ hcl ?_); simp only [seval, evw, fm, sb, *]) | ((first | refine zA ?_ ?_ | refine zC ?_ ?_ | refine zE ?_ ?_) <;> (intro hc; try simp only [seval, nf] at hc)) | refine zR ?_ | refine zS rfl ?_)
theorem num_deed2_ok (a b : Int) : Pure Tryd.prog 78 [.int .i64 a, .int .i64 b] (.int .i64 (IntKind.i64.wrap (a - b))) := by
  intro H
  refine ACalls.go num_deeds_2.low (by simp) fun hcl => ?_
  repeat' (first | simp only [seval, evo, beq_self_eq_true, sb, *] | simp (disch := omega) only [if_pos, if_neg] | refine zG ?_ | refine zH ?_ | refine zI rfl ?_ | refine zJ rfl ?_ | refine zL ?_ | refine zM ?_ | refine zN ?_ | refine zO ?_ | ((first | refine zP hcl ?_ | refine zQ hcl ?_); simp only [seval, evw, fm, sb, *]) | ((first | refine zA ?_ ?_ | refine zC ?_ ?_ | refine zE ?_ ?_) <;> (intro hc; try simp only [seval, nf] at hc)) | refine zR ?_ | refine zS rfl ?_)
theorem num_deed3_ok (a b : Int) : Pure Tryd.prog 79 [.int .i64 a, .int .i64 b] (.int .i64 (IntKind.i64.wrap (a * b))) := by
  intro H
  refine ACalls.go num_deeds_3.low (by simp) fun hcl => ?_
  repeat' (first | simp only [seval, evo, beq_self_eq_true, sb, *] | simp (disch := omega) only [if_pos, if_neg] | refine zG ?_ | refine zH ?_ | refine zI rfl ?_ | refine zJ rfl ?_ | refine zL ?_ | refine zM ?_ | refine zN ?_ | refine zO ?_ | ((first | refine zP hcl ?_ | refine zQ hcl ?_); simp only [seval, evw, fm, sb, *]) | ((first | refine zA ?_ ?_ | refine zC ?_ ?_ | refine zE ?_ ?_) <;> (intro hc; try simp only [seval, nf] at hc)) | refine zR ?_ | refine zS rfl ?_)
theorem num_deed5_ok (a b : Int) : Pure Tryd.prog 81 [.int .i64 a, .int .i64 b] (.int .i64 (bits .and .i64 a b)) := by
  intro H
  refine ACalls.go num_deeds_5.low (by simp) fun hcl => ?_
  repeat' (first | simp only [seval, evo, beq_self_eq_true, sb, *] | simp (disch := omega) only [if_pos, if_neg] | refine zG ?_ | refine zH ?_ | refine zI rfl ?_ | refine zJ rfl ?_ | refine zL ?_ | refine zM ?_ | refine zN ?_ | refine zO ?_ | ((first | refine zP hcl ?_ | refine zQ hcl ?_); simp only [seval, evw, fm, sb, *]) | ((first | refine zA ?_ ?_ | refine zC ?_ ?_ | refine zE ?_ ?_) <;> (intro hc; try simp only [seval, nf] at hc)) | refine zR ?_ | refine zS rfl ?_)
theorem num_deed6_ok (a b : Int) : Pure Tryd.prog 82 [.int .i64 a, .int .i64 b] (.int .i64 (bits .or .i64 a b)) := by
  intro H
  refine ACalls.go num_deeds_6.low (by simp) fun hcl => ?_
  repeat' (first | simp only [seval, evo, beq_self_eq_true, sb, *] | simp (disch := omega) only [if_pos, if_neg] | refine zG ?_ | refine zH ?_ | refine zI rfl ?_ | refine zJ rfl ?_ | refine zL ?_ | refine zM ?_ | refine zN ?_ | refine zO ?_ | ((first | refine zP hcl ?_ | refine zQ hcl ?_); simp only [seval, evw, fm, sb, *]) | ((first | refine zA ?_ ?_ | refine zC ?_ ?_ | refine zE ?_ ?_) <;> (intro hc; try simp only [seval, nf] at hc)) | refine zR ?_ | refine zS rfl ?_)
theorem num_deed7_ok (a b : Int) : Pure Tryd.prog 83 [.int .i64 a, .int .i64 b] (.int .i64 (bits .xor .i64 a b)) := by
  intro H
  refine ACalls.go num_deeds_7.low (by simp) fun hcl => ?_
  repeat' (first | simp only [seval, evo, beq_self_eq_true, sb, *] | simp (disch := omega) only [if_pos, if_neg] | refine zG ?_ | refine zH ?_ | refine zI rfl ?_ | refine zJ rfl ?_ | refine zL ?_ | refine zM ?_ | refine zN ?_ | refine zO ?_ | ((first | refine zP hcl ?_ | refine zQ hcl ?_); simp only [seval, evw, fm, sb, *]) | ((first | refine zA ?_ ?_ | refine zC ?_ ?_ | refine zE ?_ ?_) <;> (intro hc; try simp only [seval, nf] at hc)) | refine zR ?_ | refine zS rfl ?_)
theorem num_deed8_ok (a b : Int) : Pure Tryd.prog 84 [.int .i64 a, .int .i64 b] (.int .i64 (flagI (decide (a < b)))) := by
  intro H
  refine ACalls.go num_deeds_8.low (by simp) fun hcl => ?_
  have h1 := Hold.mk (num_flag_ok (decide (a < b)))
  repeat' (first | simp only [seval, evo, beq_self_eq_true, sb, *] | simp (disch := omega) only [if_pos, if_neg] | refine zG ?_ | refine zH ?_ | refine zI rfl ?_ | refine zJ rfl ?_ | refine zL ?_ | refine zM ?_ | refine zN ?_ | refine zO ?_ | ((first | refine zP hcl ?_ | refine zQ hcl ?_); simp only [seval, evw, fm, sb, *]) | ((first | refine zA ?_ ?_ | refine zC ?_ ?_ | refine zE ?_ ?_) <;> (intro hc; try simp only [seval, nf] at hc)) | refine zR ?_ | refine zS rfl ?_)
  first | refine zT (h1.of) ?_ | refine zV (h1.of) rfl ?_ | refine zU (h1.of) ?_
  repeat' (first | simp only [seval, evo, beq_self_eq_true, sb, *] | simp (disch := omega) only [if_pos, if_neg] | refine zG ?_ | refine zH ?_ | refine zI rfl ?_ | refine zJ rfl ?_ | refine zL ?_ | refine zM ?_ | refine zN ?_ | refine zO ?_ | ((first | refine zP hcl ?_ | refine zQ hcl ?_); simp only [seval, evw, fm, sb, *]) | ((first | refine zA ?_ ?_ | refine zC ?_ ?_ | refine zE ?_ ?_) <;> (intro hc; try simp only [seval, nf] at hc)) | refine zR ?_ | refine zS rfl ?_)
theorem num_deed9_ok (a b : Int) : Pure Tryd.prog 86 [.int .i64 a, .int .i64 b] (.int .i64 (flagI (decide (a = b)))) := by
  intro H
  refine ACalls.go num_deeds_9.low (by simp) fun hcl => ?_
  have h1 := Hold.mk (num_flag_ok (decide (a = b)))
  repeat' (first | simp only [seval, evo, beq_self_eq_true, sb, *] | simp (disch := omega) only [if_pos, if_neg] | refine zG ?_ | refine zH ?_ | refine zI rfl ?_ | refine zJ rfl ?_ | refine zL ?_ | refine zM ?_ | refine zN ?_ | refine zO ?_ | ((first | refine zP hcl ?_ | refine zQ hcl ?_); simp only [seval, evw, fm, sb, *]) | ((first | refine zA ?_ ?_ | refine zC ?_ ?_ | refine zE ?_ ?_) <;> (intro hc; try simp only [seval, nf] at hc)) | refine zR ?_ | refine zS rfl ?_)
  first | refine zT (h1.of) ?_ | refine zV (h1.of) rfl ?_ | refine zU (h1.of) ?_
  repeat' (first | simp only [seval, evo, beq_self_eq_true, sb, *] | simp (disch := omega) only [if_pos, if_neg] | refine zG ?_ | refine zH ?_ | refine zI rfl ?_ | refine zJ rfl ?_ | refine zL ?_ | refine zM ?_ | refine zN ?_ | refine zO ?_ | ((first | refine zP hcl ?_ | refine zQ hcl ?_); simp only [seval, evw, fm, sb, *]) | ((first | refine zA ?_ ?_ | refine zC ?_ ?_ | refine zE ?_ ?_) <;> (intro hc; try simp only [seval, nf] at hc)) | refine zR ?_ | refine zS rfl ?_)
theorem num_deed4_ok (a b : Int) (hb : ¬ b = 0) : Pure Tryd.prog 80 [.int .i64 a, .int .i64 b] (.int .i64 (IntKind.i64.wrap (a.tdiv b))) := by
  intro H
  refine ACalls.go num_deeds_4.low (by simp) fun hcl => ?_
  repeat' (first | simp only [seval, evo, beq_self_eq_true, sb, *] | simp (disch := omega) only [if_pos, if_neg] | refine zG ?_ | refine zH ?_ | refine zI rfl ?_ | refine zJ rfl ?_ | refine zL ?_ | refine zM ?_ | refine zN ?_ | refine zO ?_ | ((first | refine zP hcl ?_ | refine zQ hcl ?_); simp only [seval, evw, fm, sb, *]) | ((first | refine zA ?_ ?_ | refine zC ?_ ?_ | refine zE ?_ ?_) <;> (intro hc; try simp only [seval, nf] at hc)) | refine zR ?_ | refine zS rfl ?_)
def deedE : List (AV × AV) := [(.int .i64 4, .fn (.func 77) [] []), (.int .i64 5, .fn (.func 78) [] []), (.int .i64 6, .fn (.func 79) [] []), (.int .i64 7, .fn (.func 80) [] []), (.int .i64 8, .fn (.func 81) [] []), (.int .i64 9, .fn (.func 82) [] []), (.int .i64 10, .fn (.func 83) [] []), (.int .i64 11, .fn (.func 84) [] []), (.int .i64 12, .fn (.func 86) [] [])]
theorem deedE_eq : deedE = [(.int .i64 4, .fn (.func 77) [] []), (.int .i64 5, .fn (.func 78) [] []), (.int .i64 6, .fn (.func 79) [] []), (.int .i64 7, .fn (.func 80) [] []), (.int .i64 8, .fn (.func 81) [] []), (.int .i64 9, .fn (.func 82) [] []), (.int .i64 10, .fn (.func 83) [] []), (.int .i64 11, .fn (.func 84) [] []), (.int .i64 12, .fn (.func 86) [] [])] := rfl
theorem num_deeds_ok (H : List AObj) : ACalls Tryd.prog 75 [] H fun r H' => r = .map H.length ∧ H' = H ++ [.map deedE] := by
  refine ACalls.go num_deeds.low (by simp) fun hcl => ?_
  repeat' (first | simp only [seval, evo, beq_self_eq_true, sb, *] | simp (disch := omega) only [if_pos, if_neg] | refine zG ?_ | refine zH ?_ | refine zI rfl ?_ | refine zJ rfl ?_ | refine zL ?_ | refine zM ?_ | refine zN ?_ | refine zO ?_ | ((first | refine zP hcl ?_ | refine zQ hcl ?_); simp only [seval, evw, fm, sb, *]) | ((first | refine zA ?_ ?_ | refine zC ?_ ?_ | refine zE ?_ ?_) <;> (intro hc; try simp only [seval, nf] at hc)) | refine zR ?_ | refine zS rfl ?_)
  refine RetOk.fin [.map deedE] (.map H.length) hcl ⟨?_, ?_⟩ ?_ ⟨rfl, rfl⟩
  · rfl
  · rw [deedE_eq]
    simp only [seval, evw, fm, sb, *]
  · simp only [seval, evw, fm, sb, *]
    all_goals simp
set_option maxHeartbeats 1000000 in
theorem num_Do_ok (op a b : Int) : Pure Tryd.prog 71 [.int .i64 op, .int .i64 a, .int .i64 b] (nopR (numDo op a b)) := by
  intro H
  refine ACalls.go num_Do.low (by simp) fun hcl => ?_
  unfold nopR
  by_cases o4 : op = 4
  · subst o4
    have hr : numDo 4 a b = (IntKind.i64.wrap (a + b), 0) := by simp [numDo]
    rw [hr]
    have h1 := Hold.mk (num_deed1_ok a b)
    repeat' (first | simp only [seval, evo, beq_self_eq_true, sb, *] | simp (disch := omega) only [if_pos, if_neg] | refine zG ?_ | refine zH ?_ | refine zI rfl ?_ | refine zJ rfl ?_ | refine zL ?_ | refine zM ?_ | refine zN ?_ | refine zO ?_ | ((first | refine zP hcl ?_ | refine zQ hcl ?_); simp only [seval, evw, fm, sb, *]) | ((first | refine zA ?_ ?_ | refine zC ?_ ?_ | refine zE ?_ ?_) <;> (intro hc; try simp only [seval, nf] at hc)) | refine zR ?_ | refine zS rfl ?_)
    refine (num_deeds_ok _).mono ?_
    rintro r H' ⟨rfl, rfl⟩
    rw [deedE_eq]
    repeat' (first | simp only [seval, evo, beq_self_eq_true, sb, *] | simp (disch := omega) only [if_pos, if_neg] | refine zG ?_ | refine zH ?_ | refine zI rfl ?_ | refine zJ rfl ?_ | refine zL ?_ | refine zM ?_ | refine zN ?_ | refine zO ?_ | ((first | refine zP hcl ?_ | refine zQ hcl ?_); simp only [seval, evw, fm, sb, *]) | ((first | refine zA ?_ ?_ | refine zC ?_ ?_ | refine zE ?_ ?_) <;> (intro hc; try simp only [seval, nf] at hc)) | refine zR ?_ | refine zS rfl ?_)
    first | refine zT (h1.of) ?_ | refine zV (h1.of) rfl ?_ | refine zU (h1.of) ?_
    repeat' (first | simp only [seval, evo, beq_self_eq_true, sb, *] | simp (disch := omega) only [if_pos, if_neg] | refine zG ?_ | refine zH ?_ | refine zI rfl ?_ | refine zJ rfl ?_ | refine zL ?_ | refine zM ?_ | refine zN ?_ | refine zO ?_ | ((first | refine zP hcl ?_ | refine zQ hcl ?_); simp only [seval, evw, fm, sb, *]) | ((first | refine zA ?_ ?_ | refine zC ?_ ?_ | refine zE ?_ ?_) <;> (intro hc; try simp only [seval, nf] at hc)) | refine zR ?_ | refine zS rfl ?_)
  by_cases o5 : op = 5
  · subst o5
    have hr : numDo 5 a b = (IntKind.i64.wrap (a - b), 0) := by simp [numDo]
    rw [hr]
    have h1 := Hold.mk (num_deed2_ok a b)
    repeat' (first | simp only [seval, evo, beq_self_eq_true, sb, *] | simp (disch := omega) only [if_pos, if_neg] | refine zG ?_ | refine zH ?_ | refine zI rfl ?_ | refine zJ rfl ?_ | refine zL ?_ | refine zM ?_ | refine zN ?_ | refine zO ?_ | ((first | refine zP hcl ?_ | refine zQ hcl ?_); simp only [seval, evw, fm, sb, *]) | ((first | refine zA ?_ ?_ | refine zC ?_ ?_ | refine zE ?_ ?_) <;> (intro hc; try simp only [seval, nf] at hc)) | refine zR ?_ | refine zS rfl ?_)
    refine (num_deeds_ok _).mono ?_
    rintro r H' ⟨rfl, rfl⟩
    rw [deedE_eq]
    repeat' (first | simp only [seval, evo, beq_self_eq_true, sb, *] | simp (disch := omega) only [if_pos, if_neg] | refine zG ?_ | refine zH ?_ | refine zI rfl ?_ | refine zJ rfl ?_ | refine zL ?_ | refine zM ?_ | refine zN ?_ | refine zO ?_ | ((first | refine zP hcl ?_ | refine zQ hcl ?_); simp only [seval, evw, fm, sb, *]) | ((first | refine zA ?_ ?_ | refine zC ?_ ?_ | refine zE ?_ ?_) <;> (intro hc; try simp only [seval, nf] at hc)) | refine zR ?_ | refine zS rfl ?_)
    first | refine zT (h1.of) ?_ | refine zV (h1.of) rfl ?_ | refine zU (h1.of) ?_
    repeat' (first | simp only [seval, evo, beq_self_eq_true, sb, *] | simp (disch := omega) only [if_pos, if_neg] | refine zG ?_ | refine zH ?_ | refine zI rfl ?_ | refine zJ rfl ?_ | refine zL ?_ | refine zM ?_ | refine zN ?_ | refine zO ?_ | ((first | refine zP hcl ?_ | refine zQ hcl ?_); simp only [seval, evw, fm, sb, *]) | ((first | refine zA ?_ ?_ | refine zC ?_ ?_ | refine zE ?_ ?_) <;> (intro hc; try simp only [seval, nf] at hc)) | refine zR ?_ | refine zS rfl ?_)
  by_cases o6 : op = 6
  · subst o6
    have hr : numDo 6 a b = (IntKind.i64.wrap (a * b), 0) := by simp [numDo]
    rw [hr]
    have h1 := Hold.mk (num_deed3_ok a b)
    repeat' (first | simp only [seval, evo, beq_self_eq_true, sb, *] | simp (disch := omega) only [if_pos, if_neg] | refine zG ?_ | refine zH ?_ | refine zI rfl ?_ | refine zJ rfl ?_ | refine zL ?_ | refine zM ?_ | refine zN ?_ | refine zO ?_ | ((first | refine zP hcl ?_ | refine zQ hcl ?_); simp only [seval, evw, fm, sb, *]) | ((first | refine zA ?_ ?_ | refine zC ?_ ?_ | refine zE ?_ ?_) <;> (intro hc; try simp only [seval, nf] at hc)) | refine zR ?_ | refine zS rfl ?_)
    refine (num_deeds_ok _).mono ?_
    rintro r H' ⟨rfl, rfl⟩
    rw [deedE_eq]
    repeat' (first | simp only [seval, evo, beq_self_eq_true, sb, *] | simp (disch := omega) only [if_pos, if_neg] | refine zG ?_ | refine zH ?_ | refine zI rfl ?_ | refine zJ rfl ?_ | refine zL ?_ | refine zM ?_ | refine zN ?_ | refine zO ?_ | ((first | refine zP hcl ?_ | refine zQ hcl ?_); simp only [seval, evw, fm, sb, *]) | ((first | refine zA ?_ ?_ | refine zC ?_ ?_ | refine zE ?_ ?_) <;> (intro hc; try simp only [seval, nf] at hc)) | refine zR ?_ | refine zS rfl ?_)
    first | refine zT (h1.of) ?_ | refine zV (h1.of) rfl ?_ | refine zU (h1.of) ?_
    repeat' (first | simp only [seval, evo, beq_self_eq_true, sb, *] | simp (disch := omega) only [if_pos, if_neg] | refine zG ?_ | refine zH ?_ | refine zI rfl ?_ | refine zJ rfl ?_ | refine zL ?_ | refine zM ?_ | refine zN ?_ | refine zO ?_ | ((first | refine zP hcl ?_ | refine zQ hcl ?_); simp only [seval, evw, fm, sb, *]) | ((first | refine zA ?_ ?_ | refine zC ?_ ?_ | refine zE ?_ ?_) <;> (intro hc; try simp only [seval, nf] at hc)) | refine zR ?_ | refine zS rfl ?_)
  by_cases o7 : op = 7
  · subst o7
    by_cases hb : b = 0
    · have hr : numDo 7 a b = (0, 3) := by simp [numDo, hb]
      rw [hr]
      repeat' (first | simp only [seval, evo, beq_self_eq_true, sb, *] | simp (disch := omega) only [if_pos, if_neg] | refine zG ?_ | refine zH ?_ | refine zI rfl ?_ | refine zJ rfl ?_ | refine zL ?_ | refine zM ?_ | refine zN ?_ | refine zO ?_ | ((first | refine zP hcl ?_ | refine zQ hcl ?_); simp only [seval, evw, fm, sb, *]) | ((first | refine zA ?_ ?_ | refine zC ?_ ?_ | refine zE ?_ ?_) <;> (intro hc; try simp only [seval, nf] at hc)) | refine zR ?_ | refine zS rfl ?_)
      refine (num_deeds_ok _).mono ?_
      rintro r H' ⟨rfl, rfl⟩
      rw [deedE_eq]
      repeat' (first | simp only [seval, evo, beq_self_eq_true, sb, *] | simp (disch := omega) only [if_pos, if_neg] | refine zG ?_ | refine zH ?_ | refine zI rfl ?_ | refine zJ rfl ?_ | refine zL ?_ | refine zM ?_ | refine zN ?_ | refine zO ?_ | ((first | refine zP hcl ?_ | refine zQ hcl ?_); simp only [seval, evw, fm, sb, *]) | ((first | refine zA ?_ ?_ | refine zC ?_ ?_ | refine zE ?_ ?_) <;> (intro hc; try simp only [seval, nf] at hc)) | refine zR ?_ | refine zS rfl ?_)
    · have hr : numDo 7 a b = (IntKind.i64.wrap (a.tdiv b), 0) := by simp [numDo, hb]
      rw [hr]
      have h1 := Hold.mk (num_deed4_ok a b hb)
      repeat' (first | simp only [seval, evo, beq_self_eq_true, sb, *] | simp (disch := omega) only [if_pos, if_neg] | refine zG ?_ | refine zH ?_ | refine zI rfl ?_ | refine zJ rfl ?_ | refine zL ?_ | refine zM ?_ | refine zN ?_ | refine zO ?_ | ((first | refine zP hcl ?_ | refine zQ hcl ?_); simp only [seval, evw, fm, sb, *]) | ((first | refine zA ?_ ?_ | refine zC ?_ ?_ | refine zE ?_ ?_) <;> (intro hc; try simp only [seval, nf] at hc)) | refine zR ?_ | refine zS rfl ?_)
      refine (num_deeds_ok _).mono ?_
      rintro r H' ⟨rfl, rfl⟩
      rw [deedE_eq]
      repeat' (first | simp only [seval, evo, beq_self_eq_true, sb, *] | simp (disch := omega) only [if_pos, if_neg] | refine zG ?_ | refine zH ?_ | refine zI rfl ?_ | refine zJ rfl ?_ | refine zL ?_ | refine zM ?_ | refine zN ?_ | refine zO ?_ | ((first | refine zP hcl ?_ | refine zQ hcl ?_); simp only [seval, evw, fm, sb, *]) | ((first | refine zA ?_ ?_ | refine zC ?_ ?_ | refine zE ?_ ?_) <;> (intro hc; try simp only [seval, nf] at hc)) | refine zR ?_ | refine zS rfl ?_)
      first | refine zT (h1.of) ?_ | refine zV (h1.of) rfl ?_ | refine zU (h1.of) ?_
      repeat' (first | simp only [seval, evo, beq_self_eq_true, sb, *] | simp (disch := omega) only [if_pos, if_neg] | refine zG ?_ | refine zH ?_ | refine zI rfl ?_ | refine zJ rfl ?_ | refine zL ?_ | refine zM ?_ | refine zN ?_ | refine zO ?_ | ((first | refine zP hcl ?_ | refine zQ hcl ?_); simp only [seval, evw, fm, sb, *]) | ((first | refine zA ?_ ?_ | refine zC ?_ ?_ | refine zE ?_ ?_) <;> (intro hc; try simp only [seval, nf] at hc)) | refine zR ?_ | refine zS rfl ?_)
  by_cases o8 : op = 8
  · subst o8
    have hr : numDo 8 a b = (bits .and .i64 a b, 0) := by simp [numDo]
    rw [hr]
    have h1 := Hold.mk (num_deed5_ok a b)
    repeat' (first | simp only [seval, evo, beq_self_eq_true, sb, *] | simp (disch := omega) only [if_pos, if_neg] | refine zG ?_ | refine zH ?_ | refine zI rfl ?_ | refine zJ rfl ?_ | refine zL ?_ | refine zM ?_ | refine zN ?_ | refine zO ?_ | ((first | refine zP hcl ?_ | refine zQ hcl ?_); simp only [seval, evw, fm, sb, *]) | ((first | refine zA ?_ ?_ | refine zC ?_ ?_ | refine zE ?_ ?_) <;> (intro hc; try simp only [seval, nf] at hc)) | refine zR ?_ | refine zS rfl ?_)
    refine (num_deeds_ok _).mono ?_
    rintro r H' ⟨rfl, rfl⟩
    rw [deedE_eq]
    repeat' (first | simp only [seval, evo, beq_self_eq_true, sb, *] | simp (disch := omega) only [if_pos, if_neg] | refine zG ?_ | refine zH ?_ | refine zI rfl ?_ | refine zJ rfl ?_ | refine zL ?_ | refine zM ?_ | refine zN ?_ | refine zO ?_ | ((first | refine zP hcl ?_ | refine zQ hcl ?_); simp only [seval, evw, fm, sb, *]) | ((first | refine zA ?_ ?_ | refine zC ?_ ?_ | refine zE ?_ ?_) <;> (intro hc; try simp only [seval, nf] at hc)) | refine zR ?_ | refine zS rfl ?_)
    first | refine zT (h1.of) ?_ | refine zV (h1.of) rfl ?_ | refine zU (h1.of) ?_
    repeat' (first | simp only [seval, evo, beq_self_eq_true, sb, *] | simp (disch := omega) only [if_pos, if_neg] | refine zG ?_ | refine zH ?_ | refine zI rfl ?_ | refine zJ rfl ?_ | refine zL ?_ | refine zM ?_ | refine zN ?_ | refine zO ?_ | ((first | refine zP hcl ?_ | refine zQ hcl ?_); simp only [seval, evw, fm, sb, *]) | ((first | refine zA ?_ ?_ | refine zC ?_ ?_ | refine zE ?_ ?_) <;> (intro hc; try simp only [seval, nf] at hc)) | refine zR ?_ | refine zS rfl ?_)
  by_cases o9 : op = 9
  · subst o9
    have hr : numDo 9 a b = (bits .or .i64 a b, 0) := by simp [numDo]
    rw [hr]
    have h1 := Hold.mk (num_deed6_ok a b)
    repeat' (first | simp only [seval, evo, beq_self_eq_true, sb, *] | simp (disch := omega) only [if_pos, if_neg] | refine zG ?_ | refine zH ?_ | refine zI rfl ?_ | refine zJ rfl ?_ | refine zL ?_ | refine zM ?_ | refine zN ?_ | refine zO ?_ | ((first | refine zP hcl ?_ | refine zQ hcl ?_); simp only [seval, evw, fm, sb, *]) | ((first | refine zA ?_ ?_ | refine zC ?_ ?_ | refine zE ?_ ?_) <;> (intro hc; try simp only [seval, nf] at hc)) | refine zR ?_ | refine zS rfl ?_)
    refine (num_deeds_ok _).mono ?_
    rintro r H' ⟨rfl, rfl⟩
    rw [deedE_eq]
    repeat' (first | simp only [seval, evo, beq_self_eq_true, sb, *] | simp (disch := omega) only [if_pos, if_neg] | refine zG ?_ | refine zH ?_ | refine zI rfl ?_ | refine zJ rfl ?_ | refine zL ?_ | refine zM ?_ | refine zN ?_ | refine zO ?_ | ((first | refine zP hcl ?_ | refine zQ hcl ?_); simp only [seval, evw, fm, sb, *]) | ((first | refine zA ?_ ?_ | refine zC ?_ ?_ | refine zE ?_ ?_) <;> (intro hc; try simp only [seval, nf] at hc)) | refine zR ?_ | refine zS rfl ?_)
    first | refine zT (h1.of) ?_ | refine zV (h1.of) rfl ?_ | refine zU (h1.of) ?_
    repeat' (first | simp only [seval, evo, beq_self_eq_true, sb, *] | simp (disch := omega) only [if_pos, if_neg] | refine zG ?_ | refine zH ?_ | refine zI rfl ?_ | refine zJ rfl ?_ | refine zL ?_ | refine zM ?_ | refine zN ?_ | refine zO ?_ | ((first | refine zP hcl ?_ | refine zQ hcl ?_); simp only [seval, evw, fm, sb, *]) | ((first | refine zA ?_ ?_ | refine zC ?_ ?_ | refine zE ?_ ?_) <;> (intro hc; try simp only [seval, nf] at hc)) | refine zR ?_ | refine zS rfl ?_)
  by_cases o10 : op = 10
  · subst o10
    have hr : numDo 10 a b = (bits .xor .i64 a b, 0) := by simp [numDo]
    rw [hr]
    have h1 := Hold.mk (num_deed7_ok a b)
    repeat' (first | simp only [seval, evo, beq_self_eq_true, sb, *] | simp (disch := omega) only [if_pos, if_neg] | refine zG ?_ | refine zH ?_ | refine zI rfl ?_ | refine zJ rfl ?_ | refine zL ?_ | refine zM ?_ | refine zN ?_ | refine zO ?_ | ((first | refine zP hcl ?_ | refine zQ hcl ?_); simp only [seval, evw, fm, sb, *]) | ((first | refine zA ?_ ?_ | refine zC ?_ ?_ | refine zE ?_ ?_) <;> (intro hc; try simp only [seval, nf] at hc)) | refine zR ?_ | refine zS rfl ?_)
    refine (num_deeds_ok _).mono ?_
    rintro r H' ⟨rfl, rfl⟩
    rw [deedE_eq]
    repeat' (first | simp only [seval, evo, beq_self_eq_true, sb, *] | simp (disch := omega) only [if_pos, if_neg] | refine zG ?_ | refine zH ?_ | refine zI rfl ?_ | refine zJ rfl ?_ | refine zL ?_ | refine zM ?_ | refine zN ?_ | refine zO ?_ | ((first | refine zP hcl ?_ | refine zQ hcl ?_); simp only [seval, evw, fm, sb, *]) | ((first | refine zA ?_ ?_ | refine zC ?_ ?_ | refine zE ?_ ?_) <;> (intro hc; try simp only [seval, nf] at hc)) | refine zR ?_ | refine zS rfl ?_)
    first | refine zT (h1.of) ?_ | refine zV (h1.of) rfl ?_ | refine zU (h1.of) ?_
    repeat' (first | simp only [seval, evo, beq_self_eq_true, sb, *] | simp (disch := omega) only [if_pos, if_neg] | refine zG ?_ | refine zH ?_ | refine zI rfl ?_ | refine zJ rfl ?_ | refine zL ?_ | refine zM ?_ | refine zN ?_ | refine zO ?_ | ((first | refine zP hcl ?_ | refine zQ hcl ?_); simp only [seval, evw, fm, sb, *]) | ((first | refine zA ?_ ?_ | refine zC ?_ ?_ | refine zE ?_ ?_) <;> (intro hc; try simp only [seval, nf] at hc)) | refine zR ?_ | refine zS rfl ?_)
  by_cases o11 : op = 11
  · subst o11
    have hr : numDo 11 a b = (flagI (decide (a < b)), 0) := by simp [numDo]
    rw [hr]
    have h1 := Hold.mk (num_deed8_ok a b)
    repeat' (first | simp only [seval, evo, beq_self_eq_true, sb, *] | simp (disch := omega) only [if_pos, if_neg] | refine zG ?_ | refine zH ?_ | refine zI rfl ?_ | refine zJ rfl ?_ | refine zL ?_ | refine zM ?_ | refine zN ?_ | refine zO ?_ | ((first | refine zP hcl ?_ | refine zQ hcl ?_); simp only [seval, evw, fm, sb, *]) | ((first | refine zA ?_ ?_ | refine zC ?_ ?_ | refine zE ?_ ?_) <;> (intro hc; try simp only [seval, nf] at hc)) | refine zR ?_ | refine zS rfl ?_)
    refine (num_deeds_ok _).mono ?_
    rintro r H' ⟨rfl, rfl⟩
    rw [deedE_eq]
    repeat' (first | simp only [seval, evo, beq_self_eq_true, sb, *] | simp (disch := omega) only [if_pos, if_neg] | refine zG ?_ | refine zH ?_ | refine zI rfl ?_ | refine zJ rfl ?_ | refine zL ?_ | refine zM ?_ | refine zN ?_ | refine zO ?_ | ((first | refine zP hcl ?_ | refine zQ hcl ?_); simp only [seval, evw, fm, sb, *]) | ((first | refine zA ?_ ?_ | refine zC ?_ ?_ | refine zE ?_ ?_) <;> (intro hc; try simp only [seval, nf] at hc)) | refine zR ?_ | refine zS rfl ?_)
    first | refine zT (h1.of) ?_ | refine zV (h1.of) rfl ?_ | refine zU (h1.of) ?_
    repeat' (first | simp only [seval, evo, beq_self_eq_true, sb, *] | simp (disch := omega) only [if_pos, if_neg] | refine zG ?_ | refine zH ?_ | refine zI rfl ?_ | refine zJ rfl ?_ | refine zL ?_ | refine zM ?_ | refine zN ?_ | refine zO ?_ | ((first | refine zP hcl ?_ | refine zQ hcl ?_); simp only [seval, evw, fm, sb, *]) | ((first | refine zA ?_ ?_ | refine zC ?_ ?_ | refine zE ?_ ?_) <;> (intro hc; try simp only [seval, nf] at hc)) | refine zR ?_ | refine zS rfl ?_)
  by_cases o12 : op = 12
  · subst o12
    have hr : numDo 12 a b = (flagI (decide (a = b)), 0) := by simp [numDo]
    rw [hr]
    have h1 := Hold.mk (num_deed9_ok a b)
    repeat' (first | simp only [seval, evo, beq_self_eq_true, sb, *] | simp (disch := omega) only [if_pos, if_neg] | refine zG ?_ | refine zH ?_ | refine zI rfl ?_ | refine zJ rfl ?_ | refine zL ?_ | refine zM ?_ | refine zN ?_ | refine zO ?_ | ((first | refine zP hcl ?_ | refine zQ hcl ?_); simp only [seval, evw, fm, sb, *]) | ((first | refine zA ?_ ?_ | refine zC ?_ ?_ | refine zE ?_ ?_) <;> (intro hc; try simp only [seval, nf] at hc)) | refine zR ?_ | refine zS rfl ?_)
    refine (num_deeds_ok _).mono ?_
    rintro r H' ⟨rfl, rfl⟩
    rw [deedE_eq]
    repeat' (first | simp only [seval, evo, beq_self_eq_true, sb, *] | simp (disch := omega) only [if_pos, if_neg] | refine zG ?_ | refine zH ?_ | refine zI rfl ?_ | refine zJ rfl ?_ | refine zL ?_ | refine zM ?_ | refine zN ?_ | refine zO ?_ | ((first | refine zP hcl ?_ | refine zQ hcl ?_); simp only [seval, evw, fm, sb, *]) | ((first | refine zA ?_ ?_ | refine zC ?_ ?_ | refine zE ?_ ?_) <;> (intro hc; try simp only [seval, nf] at hc)) | refine zR ?_ | refine zS rfl ?_)
    first | refine zT (h1.of) ?_ | refine zV (h1.of) rfl ?_ | refine zU (h1.of) ?_
    repeat' (first | simp only [seval, evo, beq_self_eq_true, sb, *] | simp (disch := omega) only [if_pos, if_neg] | refine zG ?_ | refine zH ?_ | refine zI rfl ?_ | refine zJ rfl ?_ | refine zL ?_ | refine zM ?_ | refine zN ?_ | refine zO ?_ | ((first | refine zP hcl ?_ | refine zQ hcl ?_); simp only [seval, evw, fm, sb, *]) | ((first | refine zA ?_ ?_ | refine zC ?_ ?_ | refine zE ?_ ?_) <;> (intro hc; try simp only [seval, nf] at hc)) | refine zR ?_ | refine zS rfl ?_)
  have hr : numDo op a b = (0, 2) := by simp [numDo, o4, o5, o6, o7, o8, o9, o10, o11, o12]
  rw [hr]
  repeat' (first | simp only [seval, evo, beq_self_eq_true, sb, *] | simp (disch := omega) only [if_pos, if_neg] | refine zG ?_ | refine zH ?_ | refine zI rfl ?_ | refine zJ rfl ?_ | refine zL ?_ | refine zM ?_ | refine zN ?_ | refine zO ?_ | ((first | refine zP hcl ?_ | refine zQ hcl ?_); simp only [seval, evw, fm, sb, *]) | ((first | refine zA ?_ ?_ | refine zC ?_ ?_ | refine zE ?_ ?_) <;> (intro hc; try simp only [seval, nf] at hc)) | refine zR ?_ | refine zS rfl ?_)
  refine (num_deeds_ok _).mono ?_
  rintro r H' ⟨rfl, rfl⟩
  rw [deedE_eq]
  repeat' (first | simp only [seval, evo, beq_self_eq_true, sb, *] | simp (disch := omega) only [if_pos, if_neg] | refine zG ?_ | refine zH ?_ | refine zI rfl ?_ | refine zJ rfl ?_ | refine zL ?_ | refine zM ?_ | refine zN ?_ | refine zO ?_ | ((first | refine zP hcl ?_ | refine zQ hcl ?_); simp only [seval, evw, fm, sb, *]) | ((first | refine zA ?_ ?_ | refine zC ?_ ?_ | refine zE ?_ ?_) <;> (intro hc; try simp only [seval, nf] at hc)) | refine zR ?_ | refine zS rfl ?_)
end Go.Proofs.YtnbdpjhmepgoaaaDoor
namespace Go.Proofs.YtnbdpjhmepgoaaaDoor
open Go.RowKit
set_option linter.unusedVariables false
set_option linter.unusedSimpArgs false
theorem LoseH.set {H L M : List AObj} {k z : Nat} {row row' : List AV} (hk : k < H.length)
    (h : LoseL (H.set k (.vec z [row]) ++ L) (H.set k (.vec z [row']) ++ M) L M ∧ row'.length = z ∧ Loses (H.set k (.vec z [row]) ++ L) (H.set k (.vec z [row']) ++ M) row row') : LoseH (H.set k (.vec z [row]) ++ L) (H.set k (.vec z [row']) ++ M) := by
  obtain ⟨h0, h3, h4⟩ := h
  obtain ⟨h1, h2⟩ := h0.spec
  refine ⟨by simp [h1], fun j o p g1 g2 => ?_⟩
  rcases Nat.lt_or_ge j H.length with hj | hj
  · rw [List.getElem?_append_left (by simpa using hj)] at g1 g2
    rw [List.getElem?_set] at g1 g2
    by_cases e : k = j
    · subst e
      simp only [hj, if_true, Option.some.injEq] at g1 g2
      subst g1; subst g2
      have := lo_row (H := H.set k (.vec z [row]) ++ L) (G := H.set k (.vec z [row']) ++ M) (z := z) (r := row) (s := row') ⟨h3, h4⟩
      rw [this]; trivial
    · rw [if_neg e] at g1 g2
      rw [g1] at g2
      cases g2
      exact .inl rfl
  · rw [List.getElem?_append_right (by simpa using hj)] at g1 g2
    simp only [List.length_set] at g1 g2
    exact h2 _ o p g1 g2
def wrow (s : St) (x : Ins) (ask : List Int) (ev : AV) (how value : Int) : List AV :=
  wc s.L ++ [.list (s.heap.map encI), .int .i64 s.pc, .int .i64 s.asked, .int .i64 x.op, .int .i64 x.d, .int .i64 x.a, .int .i64 x.b, .int .i64 x.n, .int .i64 x.to, .list (ask.map encI), ev, .int .i64 how, .int .i64 value]
theorem wrow_eq {s : St} {x : Ins} {ask : List Int} {ev : AV} {how value : Int} : wrow s x ask ev how value = wc s.L ++ [.list (s.heap.map encI), .int .i64 s.pc, .int .i64 s.asked, .int .i64 x.op, .int .i64 x.d, .int .i64 x.a, .int .i64 x.b, .int .i64 x.n, .int .i64 x.to, .list (ask.map encI), ev, .int .i64 how, .int .i64 value] := rfl
section
variable {H : List AObj} {k : Nat} (hk : k < H.length)
include hk
theorem ob_get (o : AObj) (L : List AObj) : (H.set k o ++ L)[k]? = some o := by rw [List.getElem?_append_left (by simpa using hk), set_get hk]
theorem ob_set (o p : AObj) (L : List AObj) : (H.set k o ++ L).set k p = H.set k p ++ L := by rw [List.set_append, if_pos (by simpa using hk), set_set]
end
set_option linter.defProp false in
def dq9 := And.intro @sb (And.intro @ew (And.intro @ins_dec (And.intro @ins_eta (And.intro @wrow_eq (And.intro @evs_eq (And.intro @encEv_def (And.intro @List.map_cons.{0,0} (@List.map_nil.{0,0}))))))))
theorem work_number_ok {H : List AObj} {k : Nat} {L : List W} {r : List AV} (hk : k < H.length) (hx : H[k]? = some (.vec 61 [wc L ++ r])) (hL : L.length = 24) (i : Nat) (hi : i < 24) :
    ACalls Tryd.prog 66 [.ptr k 1 0 0, .int .i64 (i : Int)] H fun r' H' => r' = .int .i64 (L.getD i noW).v ∧ H' = H := by
  refine ACalls.go step_work_number.low (by simp) fun hcl => ?_
  have g1 : ∀ M : List AObj, (H ++ M)[k]? = some (.vec 61 [wc L ++ r]) := fun M => by rw [in_get hk, hx]
  have hg := wr_v (L := L) (r := r) (i := i) (by omega)
  have e1 : (i : Int) < 24 := by omega
  clear hx
  generalize (L.getD i noW).v = v at *
  repeat' (first | simp only [seval, evx, beq_self_eq_true, insA, encIns, dq9, *] | simp (disch := omega) only [if_pos, if_neg] | refine zG ?_ | refine zH ?_ | refine zI rfl ?_ | refine zK ?_ | refine zL ?_ | refine zM ?_ | refine zN ?_ | refine zO ?_ | ((first | refine zP hcl ?_ | refine zQ hcl ?_); simp only [seval, evw, fm, insA, encIns, dq9, *]) | ((first | refine zB ?_ ?_ | refine zD ?_ ?_ | refine zF ?_ ?_) <;> (intro hc; try simp only [seval, nf] at hc)) | refine zR ?_ | refine CallX.inst ?_ | (with_reducible refine And.intro ?_ ?_) | exact True.intro)
def setS (s : St) (d : Nat) (v how : Int) : St := if how = 0 then { s with L := s.L.set d ⟨true, v⟩ } else s
theorem work_set_ok {H : List AObj} {k : Nat} {s : St} {x : Ins} {ask : List Int} {ev : AV} {h0 value : Int} (v how : Int) (d : Nat) (hd : x.d = (d : Int)) (hd2 : d < 24) (hk : k < H.length) (hx : H[k]? = some (.vec 61 [wrow s x ask ev h0 value])) (hL : s.L.length = 24) (hev : ev.clean H.length = true) (hcev : ev.cell = true) :
    ACalls Tryd.prog 67 [.ptr k 1 0 0, .int .i64 v, .int .i64 how] H fun r' H' => r' = .tup [] ∧ H' = H.set k (.vec 61 [wrow (setS s d v how) x ask ev how value]) := by
  refine ACalls.go step_work_set.low (by simp) fun hcl => ?_
  have hwl : (wc s.L).length = 48 := by rw [wc_len, hL]
  have g1 : ∀ M : List AObj, (H ++ M)[k]? = some (.vec 61 [wrow s x ask ev h0 value]) := fun M => by rw [in_get hk, hx]
  have g2 : ∀ (M : List AObj) (o : AObj), (H ++ M).set k o = H.set k o ++ M := fun M o => in_set hk
  have g3 := ob_get hk
  have g4 := ob_set hk
  have g5 : ∀ o : AObj, H.length ≤ (H.set k o).length := fun o => by simp
  have hput := wr_put2 (L := s.L) (i := d) (r := [.list (s.heap.map encI), .int .i64 s.pc, .int .i64 s.asked, .int .i64 x.op, .int .i64 (d : Int), .int .i64 x.a, .int .i64 x.b, .int .i64 x.n, .int .i64 x.to, .list (ask.map encI), ev, .int .i64 how, .int .i64 value]) ⟨true, v⟩ (by omega)
  have hwl2 : (wc (s.L.set d ⟨true, v⟩)).length = 48 := by rw [wc_len, List.length_set, hL]
  have e1 : (d : Int) < 24 := by omega
  have e2 : d * 2 + 2 ≤ 61 := by omega
  clear hx
  obtain ⟨op, xd, xa, xb, xn, xto⟩ := x
  simp only at hd
  subst hd
  by_cases hh : how = 0
  · subst hh
    have hs : setS s d v 0 = { s with L := s.L.set d ⟨true, v⟩ } := by simp [setS]
    rw [hs]
    replace hs := Hold.mk hs
    replace hL := Hold.mk hL
    replace hev := Hold.mk hev
    repeat' (first | simp only [seval, evx, beq_self_eq_true, insA, encIns, dq9, *] | simp (disch := omega) only [if_pos, if_neg] | refine zG ?_ | refine zH ?_ | refine zI rfl ?_ | refine zK ?_ | refine zL ?_ | refine zM ?_ | refine zN ?_ | refine zO ?_ | ((first | refine zP hcl ?_ | refine zQ hcl ?_); simp only [seval, evw, fm, insA, encIns, dq9, *]) | ((first | refine zB ?_ ?_ | refine zD ?_ ?_ | refine zF ?_ ?_) <;> (intro hc; try simp only [seval, nf] at hc)) | refine zR ?_ | refine CallX.inst ?_ | (with_reducible refine And.intro ?_ ?_) | exact True.intro)
    (refine RetOk.upd (.tup []) (g5 _) (by rw [List.length_set]; exact hcl.set (vec_clean (by simp [cl_wc, cleanAll, AV.clean, hev.of]))) ?_ ⟨rfl, rfl⟩; exact .same _ rfl)
  · have hs : setS s d v how = s := by simp [setS, hh]
    rw [hs]
    replace hs := Hold.mk hs
    replace hL := Hold.mk hL
    replace hev := Hold.mk hev
    repeat' (first | simp only [seval, evx, beq_self_eq_true, insA, encIns, dq9, *] | simp (disch := omega) only [if_pos, if_neg] | refine zG ?_ | refine zH ?_ | refine zI rfl ?_ | refine zK ?_ | refine zL ?_ | refine zM ?_ | refine zN ?_ | refine zO ?_ | ((first | refine zP hcl ?_ | refine zQ hcl ?_); simp only [seval, evw, fm, insA, encIns, dq9, *]) | ((first | refine zB ?_ ?_ | refine zD ?_ ?_ | refine zF ?_ ?_) <;> (intro hc; try simp only [seval, nf] at hc)) | refine zR ?_ | refine CallX.inst ?_ | (with_reducible refine And.intro ?_ ?_) | exact True.intro)
    (refine RetOk.upd (.tup []) (g5 _) (by rw [List.length_set]; exact hcl.set (vec_clean (by simp [cl_wc, cleanAll, AV.clean, hev.of]))) ?_ ⟨rfl, rfl⟩; exact .same _ rfl)
def callS (s : St) (d : Nat) (v : Int) : St := { s with L := s.L.set d ⟨true, v⟩, asked := s.asked + 1 }
set_option maxHeartbeats 1000000 in
theorem work_call_ok {H : List AObj} {k : Nat} {s : St} {x : Ins} {ask : List Int} {value : Int} (arg : Int) (d : Nat) (hd : x.d = (d : Int)) (hd2 : d < 24) (hk : k < H.length) (hx : H[k]? = some (.vec 61 [wrow s x ask (.list []) 0 value])) (hL : s.L.length = 24) (h0 : 0 ≤ s.asked) (hask : (ask.length : Int) ≤ 9223372036854775807) :
    ACalls Tryd.prog 70 [.ptr k 1 0 0, .int .i64 arg] H fun r' H' => r' = .tup [] ∧ H' = if s.asked < (ask.length : Int) then H.set k (.vec 61 [wrow (callS s d (ask.getD s.asked.toNat 0)) x ask (evs [⟨x.n, arg, ask.getD s.asked.toNat 0⟩]) 0 value]) else H.set k (.vec 61 [wrow s x ask (.list []) 5 value]) := by
  refine ACalls.go step_work_call.low (by simp) fun hcl => ?_
  have hwl : (wc s.L).length = 48 := by rw [wc_len, hL]
  have g1 : ∀ M : List AObj, (H ++ M)[k]? = some (.vec 61 [wrow s x ask (.list []) 0 value]) := fun M => by rw [in_get hk, hx]
  have g2 : ∀ (M : List AObj) (o : AObj), (H ++ M).set k o = H.set k o ++ M := fun M o => in_set hk
  have g3 := ob_get hk
  have g4 := ob_set hk
  have g5 : ∀ o : AObj, H.length ≤ (H.set k o).length := fun o => by simp
  have g6 : ∀ (o : AObj) (M : List AObj), (H.set k o ++ M)[H.length]? = M[0]? := fun o M => by rw [List.getElem?_append_right (by simp)]; simp
  have hev : Hold (True) := ⟨trivial⟩
  clear hx
  obtain ⟨op, xd, xa, xb, xn, xto⟩ := x
  simp only at hd
  subst hd
  by_cases hlt : s.asked < (ask.length : Int)
  · rw [show (fun (r' : AV) (H' : List AObj) => r' = AV.tup [] ∧ H' = if s.asked < (ask.length : Int) then H.set k (.vec 61 [wrow (callS s d (ask.getD s.asked.toNat 0)) ⟨op, (d : Int), xa, xb, xn, xto⟩ ask (evs [⟨xn, arg, ask.getD s.asked.toNat 0⟩]) 0 value]) else H.set k (.vec 61 [wrow s ⟨op, (d : Int), xa, xb, xn, xto⟩ ask (.list []) 5 value])) = fun r' H' => r' = AV.tup [] ∧ H' = H.set k (.vec 61 [wrow (callS s d (ask.getD s.asked.toNat 0)) ⟨op, (d : Int), xa, xb, xn, xto⟩ ask (evs [⟨xn, arg, ask.getD s.asked.toNat 0⟩]) 0 value]) from by funext r' H'; rw [if_pos hlt]]
    obtain ⟨n, hn⟩ := Int.eq_ofNat_of_zero_le h0
    obtain ⟨L, heap, pc, asked⟩ := s
    simp only at hn hL hwl hlt h0
    subst hn
    have hnl : n < ask.length := by omega
    have e1 : ¬ (ask.length : Int) ≤ (n : Int) := by omega
    have e2 : IntKind.i64.wrap ((n : Int) + 1) = ((n + 1 : Nat) : Int) := by rw [IntKind.wrap_i64]; omega
    have e3 : ((n : Int) + 1) = ((n + 1 : Nat) : Int) := by omega
    have hg := getD_encI hnl
    have hcS : callS ⟨L, heap, pc, (n : Int)⟩ d (ask.getD n 0) = ⟨L.set d ⟨true, ask.getD n 0⟩, heap, pc, ((n + 1 : Nat) : Int)⟩ := by simp [callS]
    have htn : ((n : Int)).toNat = n := by simp
    simp only [htn]
    rw [hcS]
    replace hcS := Hold.mk hcS
    replace e3 := Hold.mk e3
    replace htn := Hold.mk htn
    generalize ask.getD n 0 = v at *
    replace hL := Hold.mk hL
    clear hask h0
    repeat' (first | simp only [seval, evx, beq_self_eq_true, insA, encIns, dq9, *] | simp (disch := omega) only [if_pos, if_neg] | refine zG ?_ | refine zH ?_ | refine zI rfl ?_ | refine zK ?_ | refine zL ?_ | refine zM ?_ | refine zN ?_ | refine zO ?_ | ((first | refine zP hcl ?_ | refine zQ hcl ?_); simp only [seval, evw, fm, insA, encIns, dq9, *]) | ((first | refine zB ?_ ?_ | refine zD ?_ ?_ | refine zF ?_ ?_) <;> (intro hc; try simp only [seval, nf] at hc)) | refine zR ?_ | refine CallX.inst ?_ | (with_reducible refine And.intro ?_ ?_) | exact True.intro)
    refine ACalls.lose (G := H.set k (.vec 61 [wrow ⟨L, heap, pc, ((n + 1 : Nat) : Int)⟩ ⟨op, (d : Int), xa, xb, xn, xto⟩ ask (evs [⟨xn, arg, v⟩]) 0 value]) ++ [.gone]) (LoseH.set hk ⟨?_, ?_, ?_⟩) (Loses.refl _) ?_
    · simp only [seval, evw, lk, fm, sb, ew, insA, encIns, ins_dec, ins_eta, wrow_eq, evs_eq, encEv_def, List.map_cons, List.map_nil, *]
    · simp only [seval, evw, lk, fm, sb, ew, insA, encIns, ins_dec, ins_eta, wrow_eq, evs_eq, encEv_def, List.map_cons, List.map_nil, *]
    · simp only [seval, evw, lk, fm, sb, ew, insA, encIns, ins_dec, ins_eta, wrow_eq, evs_eq, encEv_def, List.map_cons, List.map_nil, *]
    refine (work_set_ok (s := ⟨L, heap, pc, ((n + 1 : Nat) : Int)⟩) (x := ⟨op, (d : Int), xa, xb, xn, xto⟩) v 0 d rfl hd2 (by simp; omega) (g3 _ _) hL.of rfl rfl).mono ?_
    rintro r' H' ⟨rfl, rfl⟩
    have hs : setS ⟨L, heap, pc, ((n + 1 : Nat) : Int)⟩ d v 0 = ⟨L.set d ⟨true, v⟩, heap, pc, ((n + 1 : Nat) : Int)⟩ := by simp [setS]
    rw [hs]
    replace hs := Hold.mk hs
    repeat' (first | simp only [seval, evx, beq_self_eq_true, insA, encIns, dq9, *] | simp (disch := omega) only [if_pos, if_neg] | refine zG ?_ | refine zH ?_ | refine zI rfl ?_ | refine zK ?_ | refine zL ?_ | refine zM ?_ | refine zN ?_ | refine zO ?_ | ((first | refine zP hcl ?_ | refine zQ hcl ?_); simp only [seval, evw, fm, insA, encIns, dq9, *]) | ((first | refine zB ?_ ?_ | refine zD ?_ ?_ | refine zF ?_ ?_) <;> (intro hc; try simp only [seval, nf] at hc)) | refine zR ?_ | refine CallX.inst ?_ | (with_reducible refine And.intro ?_ ?_) | exact True.intro)
    (refine RetOk.upd (.tup []) (g5 _) (by rw [List.length_set]; exact hcl.set (vec_clean (by simp [cl_wc, cleanAll, AV.clean, hev.of]))) ?_ ⟨rfl, rfl⟩; exact .same _ rfl)
  · rw [show (fun (r' : AV) (H' : List AObj) => r' = AV.tup [] ∧ H' = if s.asked < (ask.length : Int) then H.set k (.vec 61 [wrow (callS s d (ask.getD s.asked.toNat 0)) ⟨op, (d : Int), xa, xb, xn, xto⟩ ask (evs [⟨xn, arg, ask.getD s.asked.toNat 0⟩]) 0 value]) else H.set k (.vec 61 [wrow s ⟨op, (d : Int), xa, xb, xn, xto⟩ ask (.list []) 5 value])) = fun r' H' => r' = AV.tup [] ∧ H' = H.set k (.vec 61 [wrow s ⟨op, (d : Int), xa, xb, xn, xto⟩ ask (.list []) 5 value]) from by funext r' H'; rw [if_neg hlt]]
    have e1 : (ask.length : Int) ≤ s.asked := by omega
    replace hL := Hold.mk hL
    clear hask h0
    repeat' (first | simp only [seval, evx, beq_self_eq_true, insA, encIns, dq9, *] | simp (disch := omega) only [if_pos, if_neg] | refine zG ?_ | refine zH ?_ | refine zI rfl ?_ | refine zK ?_ | refine zL ?_ | refine zM ?_ | refine zN ?_ | refine zO ?_ | ((first | refine zP hcl ?_ | refine zQ hcl ?_); simp only [seval, evw, fm, insA, encIns, dq9, *]) | ((first | refine zB ?_ ?_ | refine zD ?_ ?_ | refine zF ?_ ?_) <;> (intro hc; try simp only [seval, nf] at hc)) | refine zR ?_ | refine CallX.inst ?_ | (with_reducible refine And.intro ?_ ?_) | exact True.intro)
    (refine RetOk.upd (.tup []) (g5 _) (by rw [List.length_set]; exact hcl.set (vec_clean (by simp [cl_wc, cleanAll, AV.clean, hev.of]))) ?_ ⟨rfl, rfl⟩; exact .same _ rfl)
def moveS (s : St) (x : Ins) : St :=
  if x.op = 1 then { s with L := s.L.set x.d.toNat ⟨true, x.n⟩ }
  else if x.op = 2 then { s with L := s.L.set x.d.toNat (s.L.getD x.a.toNat noW) }
  else if x.op = 3 then { s with L := (s.L.set x.d.toNat (s.L.getD x.a.toNat noW)).set x.a.toNat (s.L.getD x.d.toNat noW) }
  else s
set_option maxHeartbeats 2000000 in
theorem work_move_ok {H : List AObj} {k : Nat} {s : St} {x : Ins} {ask : List Int} {value how : Int} (d a : Nat) (hd : x.d = (d : Int)) (hd2 : d < 24) (ha : x.a = (a : Int)) (ha2 : a < 24) (hop : x.op = 1 ∨ x.op = 2 ∨ x.op = 3) (hk : k < H.length) (hx : H[k]? = some (.vec 61 [wrow s x ask (.list []) how value])) (hL : s.L.length = 24) :
    ACalls Tryd.prog 72 [.ptr k 1 0 0] H fun r' H' => r' = .tup [] ∧ H' = H.set k (.vec 61 [wrow (moveS s x) x ask (.list []) how value]) := by
  refine ACalls.go step_work_move.low (by simp) fun hcl => ?_
  have hwl : (wc s.L).length = 48 := by rw [wc_len, hL]
  have g1 : ∀ M : List AObj, (H ++ M)[k]? = some (.vec 61 [wrow s x ask (.list []) how value]) := fun M => by rw [in_get hk, hx]
  have g2 : ∀ (M : List AObj) (o : AObj), (H ++ M).set k o = H.set k o ++ M := fun M o => in_set hk
  have g3 := ob_get hk
  have g4 := ob_set hk
  have g5 : ∀ o : AObj, H.length ≤ (H.set k o).length := fun o => by simp
  have hev : Hold (True) := ⟨trivial⟩
  clear hx
  obtain ⟨op, xd, xa, xb, xn, xto⟩ := x
  simp only at hd ha
  subst hd
  subst ha
  have e1 : (d : Int) < 24 := by omega
  have e2 : d * 2 + 2 ≤ 61 := by omega
  have e3 : (a : Int) < 24 := by omega
  have e4 : a * 2 + 2 ≤ 61 := by omega
  have e5 : d * 2 + 2 ≤ 48 + 13 := by omega
  have e6 : a * 2 + 2 ≤ 48 + 13 := by omega
  obtain ⟨L, heap, pc, asked⟩ := s
  simp only at hL hwl
  have hset : ∀ w : W, (wc (L.set d w)).length = 48 := fun w => by rw [wc_len, List.length_set, hL]
  by_cases o1 : op = 1
  · subst o1
    have hm : moveS ⟨L, heap, pc, asked⟩ ⟨1, (d : Int), (a : Int), xb, xn, xto⟩ = ⟨L.set d ⟨true, xn⟩, heap, pc, asked⟩ := by simp [moveS]
    rw [hm]
    replace hm := Hold.mk hm
    have hput := wr_put2 (L := L) (i := d) (r := [.list (heap.map encI), .int .i64 pc, .int .i64 asked, .int .i64 1, .int .i64 (d : Int), .int .i64 (a : Int), .int .i64 xb, .int .i64 xn, .int .i64 xto, .list (ask.map encI), .list [], .int .i64 how, .int .i64 value]) ⟨true, xn⟩ (by omega)
    replace hL := Hold.mk hL
    repeat' (first | simp only [seval, evx, beq_self_eq_true, insA, encIns, dq9, *] | simp (disch := omega) only [if_pos, if_neg] | refine zG ?_ | refine zH ?_ | refine zI rfl ?_ | refine zK ?_ | refine zL ?_ | refine zM ?_ | refine zN ?_ | refine zO ?_ | ((first | refine zP hcl ?_ | refine zQ hcl ?_); simp only [seval, evw, fm, insA, encIns, dq9, *]) | ((first | refine zB ?_ ?_ | refine zD ?_ ?_ | refine zF ?_ ?_) <;> (intro hc; try simp only [seval, nf] at hc)) | refine zR ?_ | refine CallX.inst ?_ | (with_reducible refine And.intro ?_ ?_) | exact True.intro)
    (refine RetOk.upd (.tup []) (g5 _) (by rw [List.length_set]; exact hcl.set (vec_clean (by simp [cl_wc, cleanAll, AV.clean, hev.of]))) ?_ ⟨rfl, rfl⟩; exact .same _ rfl)
  by_cases o2 : op = 2
  · subst o2
    have hm : moveS ⟨L, heap, pc, asked⟩ ⟨2, (d : Int), (a : Int), xb, xn, xto⟩ = ⟨L.set d (L.getD a noW), heap, pc, asked⟩ := by simp [moveS]
    rw [hm]
    replace hm := Hold.mk hm
    have hg := wr_pair (L := L) (i := a) (r := [.list (heap.map encI), .int .i64 pc, .int .i64 asked, .int .i64 2, .int .i64 (d : Int), .int .i64 (a : Int), .int .i64 xb, .int .i64 xn, .int .i64 xto, .list (ask.map encI), .list [], .int .i64 how, .int .i64 value]) (by omega)
    have hput := wr_put2 (L := L) (i := d) (r := [.list (heap.map encI), .int .i64 pc, .int .i64 asked, .int .i64 2, .int .i64 (d : Int), .int .i64 (a : Int), .int .i64 xb, .int .i64 xn, .int .i64 xto, .list (ask.map encI), .list [], .int .i64 how, .int .i64 value]) (L.getD a noW) (by omega)
    generalize L.getD a noW = w at *
    simp only [encW_def] at hg
    replace hL := Hold.mk hL
    repeat' (first | simp only [seval, evx, beq_self_eq_true, insA, encIns, dq9, *] | simp (disch := omega) only [if_pos, if_neg] | refine zG ?_ | refine zH ?_ | refine zI rfl ?_ | refine zK ?_ | refine zL ?_ | refine zM ?_ | refine zN ?_ | refine zO ?_ | ((first | refine zP hcl ?_ | refine zQ hcl ?_); simp only [seval, evw, fm, insA, encIns, dq9, *]) | ((first | refine zB ?_ ?_ | refine zD ?_ ?_ | refine zF ?_ ?_) <;> (intro hc; try simp only [seval, nf] at hc)) | refine zR ?_ | refine CallX.inst ?_ | (with_reducible refine And.intro ?_ ?_) | exact True.intro)
    (refine RetOk.upd (.tup []) (g5 _) (by rw [List.length_set]; exact hcl.set (vec_clean (by simp [cl_wc, cleanAll, AV.clean, hev.of]))) ?_ ⟨rfl, rfl⟩; exact .same _ rfl)
  by_cases o3 : op = 3
  · subst o3
    have hm : moveS ⟨L, heap, pc, asked⟩ ⟨3, (d : Int), (a : Int), xb, xn, xto⟩ = ⟨(L.set d (L.getD a noW)).set a (L.getD d noW), heap, pc, asked⟩ := by simp [moveS]
    rw [hm]
    replace hm := Hold.mk hm
    have hg := wr_pair (L := L) (i := a) (r := [.list (heap.map encI), .int .i64 pc, .int .i64 asked, .int .i64 3, .int .i64 (d : Int), .int .i64 (a : Int), .int .i64 xb, .int .i64 xn, .int .i64 xto, .list (ask.map encI), .list [], .int .i64 how, .int .i64 value]) (by omega)
    have hg2 := wr_pair (L := L) (i := d) (r := [.list (heap.map encI), .int .i64 pc, .int .i64 asked, .int .i64 3, .int .i64 (d : Int), .int .i64 (a : Int), .int .i64 xb, .int .i64 xn, .int .i64 xto, .list (ask.map encI), .list [], .int .i64 how, .int .i64 value]) (by omega)
    have hput := wr_put2 (L := L) (i := d) (r := [.list (heap.map encI), .int .i64 pc, .int .i64 asked, .int .i64 3, .int .i64 (d : Int), .int .i64 (a : Int), .int .i64 xb, .int .i64 xn, .int .i64 xto, .list (ask.map encI), .list [], .int .i64 how, .int .i64 value]) (L.getD a noW) (by omega)
    have hput2 := wr_put2 (L := L.set d (L.getD a noW)) (i := a) (r := [.list (heap.map encI), .int .i64 pc, .int .i64 asked, .int .i64 3, .int .i64 (d : Int), .int .i64 (a : Int), .int .i64 xb, .int .i64 xn, .int .i64 xto, .list (ask.map encI), .list [], .int .i64 how, .int .i64 value]) (L.getD d noW) (by rw [List.length_set]; omega)
    generalize L.getD a noW = w at *
    generalize L.getD d noW = u at *
    simp only [encW_def] at hg hg2
    replace hL := Hold.mk hL
    repeat' (first | simp only [seval, evx, beq_self_eq_true, insA, encIns, dq9, *] | simp (disch := omega) only [if_pos, if_neg] | refine zG ?_ | refine zH ?_ | refine zI rfl ?_ | refine zK ?_ | refine zL ?_ | refine zM ?_ | refine zN ?_ | refine zO ?_ | ((first | refine zP hcl ?_ | refine zQ hcl ?_); simp only [seval, evw, fm, insA, encIns, dq9, *]) | ((first | refine zB ?_ ?_ | refine zD ?_ ?_ | refine zF ?_ ?_) <;> (intro hc; try simp only [seval, nf] at hc)) | refine zR ?_ | refine CallX.inst ?_ | (with_reducible refine And.intro ?_ ?_) | exact True.intro)
    (refine RetOk.upd (.tup []) (g5 _) (by rw [List.length_set]; exact hcl.set (vec_clean (by simp [cl_wc, cleanAll, AV.clean, hev.of]))) ?_ ⟨rfl, rfl⟩; exact .same _ rfl)
  · simp only at hop
    omega
def stepW (s : St) (x : Ins) (ask : List Int) : St × List Ev × Int × Int :=
  let a := (s.L.getD x.a.toNat noW).v
  let b := (s.L.getD x.b.toNat noW).v
  if x.op = 13 then (if (hLoad s.heap a).2 = 0 then ({ setS s x.d.toNat (hLoad s.heap a).1 0 with pc := s.pc + 1 }, [], 0, 0) else (s, [], (hLoad s.heap a).2, 0))
  else if x.op = 14 then (if (hStore s.heap a b).2 = 0 then ({ s with heap := (hStore s.heap a b).1, pc := s.pc + 1 }, [], 0, 0) else (s, [], (hStore s.heap a b).2, 0))
  else if x.op = 15 then (if s.asked < (ask.length : Int) then ({ callS s x.d.toNat (ask.getD s.asked.toNat 0) with pc := s.pc + 1 }, [⟨x.n, a, ask.getD s.asked.toNat 0⟩], 0, 0) else (s, [], 5, 0))
  else if x.op = 18 then (s, [], 1, a)
  else if x.op = 17 then ({ s with pc := if a = 0 then x.to else s.pc + 1 }, [], 0, 0)
  else if x.op = 16 then ({ s with pc := x.to }, [], 0, 0)
  else if x.op = 1 ∨ x.op = 2 ∨ x.op = 3 then ({ moveS s x with pc := s.pc + 1 }, [], 0, 0)
  else if (numDo x.op a b).2 = 0 then ({ setS s x.d.toNat (numDo x.op a b).1 0 with pc := s.pc + 1 }, [], 0, 0)
  else (s, [], (numDo x.op a b).2, 0)
theorem moveS_pc (s : St) (x : Ins) : (moveS s x).pc = s.pc := by unfold moveS; (repeat' split) <;> rfl
theorem moveS_len (s : St) (x : Ins) : (moveS s x).L.length = s.L.length := by unfold moveS; (repeat' split) <;> simp
theorem hLoad_how (h : List Int) (a : Int) : (hLoad h a).2 = 0 ∨ (hLoad h a).2 = 4 := by unfold hLoad; split <;> simp
theorem hStore_how (h : List Int) (a v : Int) : (hStore h a v).2 = 0 ∨ (hStore h a v).2 = 4 := by unfold hStore; split <;> simp
set_option maxHeartbeats 4000000 in
theorem work_do_ok {H : List AObj} {k : Nat} {s : St} {x : Ins} {ask : List Int} (d a b : Nat) (hd : x.d = (d : Int)) (hd2 : d < 24) (ha : x.a = (a : Int)) (ha2 : a < 24) (hb : x.b = (b : Int)) (hb2 : b < 24) (hk : k < H.length) (hx : H[k]? = some (.vec 61 [wrow s x ask (.list []) 0 0])) (hL : s.L.length = 24)
    (h0 : 0 ≤ s.asked) (hask : (ask.length : Int) ≤ 9223372036854775807) (hp0 : 0 ≤ s.pc) (hp1 : s.pc ≤ 1000) :
    ACalls Tryd.prog 64 [.ptr k 1 0 0] H fun r' H' => r' = .tup [] ∧ H' = H.set k (.vec 61 [wrow (stepW s x ask).1 x ask (evs (stepW s x ask).2.1) (stepW s x ask).2.2.1 (stepW s x ask).2.2.2]) := by
  refine ACalls.go step_work_do.low (by simp) fun hcl => ?_
  have hwl : (wc s.L).length = 48 := by rw [wc_len, hL]
  have g1 : ∀ M : List AObj, (H ++ M)[k]? = some (.vec 61 [wrow s x ask (.list []) 0 0]) := fun M => by rw [in_get hk, hx]
  have g2 : ∀ (M : List AObj) (o : AObj), (H ++ M).set k o = H.set k o ++ M := fun M o => in_set hk
  have g3 := ob_get hk
  have g4 := ob_set hk
  have g5 : ∀ o : AObj, H.length ≤ (H.set k o).length := fun o => by simp
  have hk0 : Hold (k < (H ++ []).length) := ⟨by simpa using hk⟩
  have hx0 : Hold ((H ++ [])[k]? = some (.vec 61 [wrow s x ask (.list []) 0 0])) := ⟨g1 []⟩
  have e1 : IntKind.i64.wrap (s.pc + 1) = s.pc + 1 := by rw [IntKind.wrap_i64]; omega
  have hw := hx0.of
  rw [wrow_eq] at hw
  have n1 := Hold.mk (work_number_ok (L := s.L) (r := _) hk0.of hw hL a ha2)
  have n2 := Hold.mk (work_number_ok (L := s.L) (r := _) hk0.of hw hL b hb2)
  have hset := Hold.mk (fun v how => work_set_ok (s := s) (x := x) (ask := ask) (ev := .list []) (h0 := 0) (value := 0) v how d hd hd2 hk0.of hx0.of hL rfl rfl)
  have hcall := Hold.mk (fun arg => work_call_ok (s := s) (x := x) (ask := ask) (value := 0) arg d hd hd2 hk0.of hx0.of hL h0 hask)
  have hmove := Hold.mk (fun ho => work_move_ok (s := s) (x := x) (ask := ask) (value := 0) (how := 0) d a hd hd2 ha ha2 ho hk0.of hx0.of hL)
  have hins := Hold.mk (ins_Moves_ok x)
  have hld := Hold.mk (heap_Load_ok s.heap (s.L.getD a noW).v)
  have hst := Hold.mk (heap_Store_ok s.heap (s.L.getD a noW).v (s.L.getD b noW).v)
  have hnum := Hold.mk (num_Do_ok x.op (s.L.getD a noW).v (s.L.getD b noW).v)
  have hlh := Hold.mk (hLoad_how s.heap (s.L.getD a noW).v)
  have hsh := Hold.mk (hStore_how s.heap (s.L.getD a noW).v (s.L.getD b noW).v)
  obtain ⟨RES, hW⟩ : ∃ R, stepW s x ask = R := ⟨_, rfl⟩
  rw [hW]
  unfold stepW at hW
  rw [show x.a.toNat = a by rw [ha]; simp, show x.b.toNat = b by rw [hb]; simp, show x.d.toNat = d by rw [hd]; simp] at hW
  simp only at hW
  have hpm := moveS_pc s x
  have hlm := moveS_len s x
  replace hpm := Hold.mk hpm
  replace hlm := Hold.mk hlm
  generalize (s.L.getD a noW).v = va at *
  generalize (s.L.getD b noW).v = vb at *
  clear hx hw
  obtain ⟨op, xd, xa, xb, xn, xto⟩ := x
  simp only at hd ha hb
  subst hd
  subst ha
  subst hb
  rw [insA_eq] at hins
  simp only at hW hins hnum
  replace hW := Hold.mk hW
  replace hL := Hold.mk hL
  clear h0 hask hp0 hp1
  refine R.cut [(0, .ptr k 1 0 0), (2, .int .i64 va), (3, .int .i64 vb)] (H ++ []) ?_ ?_
  · refine LCB.any ?_
    repeat' (first | (refine zQ hcl ?_; simp only [seval, evw, fm, insA, encIns, dq9, *]) | (refine ACalls.mono n1.of ?_; rintro r' H' ⟨rfl, rfl⟩) | (refine ACalls.mono n2.of ?_; rintro r' H' ⟨rfl, rfl⟩) | (with_reducible refine And.intro ?_ ?_) | exact True.intro | simp only [wpP, wpPs, pureStep, seval, evo, evp, sb, ew, insA, encIns, ins_dec, ins_eta, wrow_eq, evs_eq, encEv_def, List.map_cons, List.map_nil, *])
  by_cases o13 : op = 13
  · subst o13
    have hW2 := hW.of
    rw [if_pos rfl] at hW2
    unfold hLoadA at hld
    clear hW
    generalize hLoad s.heap va = q at *
    obtain ⟨v, how⟩ := q
    simp only at hW2 hld hlh
    replace hW2 := Hold.mk hW2
    repeat' (first | simp only [seval, evx, beq_self_eq_true, insA, encIns, dq9, *] | simp (disch := omega) only [if_pos, if_neg] | refine zG ?_ | refine zH ?_ | refine zI rfl ?_ | refine zK ?_ | refine zL ?_ | refine zM ?_ | refine zN ?_ | refine zO ?_ | ((first | refine zP hcl ?_ | refine zQ hcl ?_); simp only [seval, evw, fm, insA, encIns, dq9, *]) | ((first | refine zB ?_ ?_ | refine zD ?_ ?_ | refine zF ?_ ?_) <;> (intro hc; try simp only [seval, nf] at hc)) | refine zR ?_ | refine CallX.inst ?_ | (with_reducible refine And.intro ?_ ?_) | exact True.intro)
    first | refine zT (hld.of) ?_ | refine zV (hld.of) rfl ?_ | refine zU (hld.of) ?_
    repeat' (first | simp only [seval, evx, beq_self_eq_true, insA, encIns, dq9, *] | simp (disch := omega) only [if_pos, if_neg] | refine zG ?_ | refine zH ?_ | refine zI rfl ?_ | refine zK ?_ | refine zL ?_ | refine zM ?_ | refine zN ?_ | refine zO ?_ | ((first | refine zP hcl ?_ | refine zQ hcl ?_); simp only [seval, evw, fm, insA, encIns, dq9, *]) | ((first | refine zB ?_ ?_ | refine zD ?_ ?_ | refine zF ?_ ?_) <;> (intro hc; try simp only [seval, nf] at hc)) | refine zR ?_ | refine CallX.inst ?_ | (with_reducible refine And.intro ?_ ?_) | exact True.intro)
    refine (hset.of v how).mono ?_
    rintro r' H' ⟨rfl, rfl⟩
    replace hW2 := hW2.of
    by_cases hh : how = 0
    · subst hh
      rw [if_pos rfl] at hW2
      subst hW2
      have hs : setS s d v 0 = { s with L := s.L.set d ⟨true, v⟩ } := by simp [setS]
      rw [hs]
      replace hs := Hold.mk hs
      have hwl2 : (wc (s.L.set d ⟨true, v⟩)).length = 48 := by rw [wc_len, List.length_set, hL.of]
      repeat' (first | simp only [seval, evx, beq_self_eq_true, insA, encIns, dq9, *] | simp (disch := omega) only [if_pos, if_neg] | refine zG ?_ | refine zH ?_ | refine zI rfl ?_ | refine zK ?_ | refine zL ?_ | refine zM ?_ | refine zN ?_ | refine zO ?_ | ((first | refine zP hcl ?_ | refine zQ hcl ?_); simp only [seval, evw, fm, insA, encIns, dq9, *]) | ((first | refine zB ?_ ?_ | refine zD ?_ ?_ | refine zF ?_ ?_) <;> (intro hc; try simp only [seval, nf] at hc)) | refine zR ?_ | refine CallX.inst ?_ | (with_reducible refine And.intro ?_ ?_) | exact True.intro)
      (refine RetOk.upd (.tup []) (g5 _) (by rw [List.length_set]; exact hcl.set (vec_clean (by simp [cl_wc, cleanAll, AV.clean]))) ?_ ⟨rfl, rfl⟩; exact .same _ rfl)
    · rw [if_neg hh] at hW2
      subst hW2
      have hs : setS s d v how = s := by simp [setS, hh]
      rw [hs]
      replace hs := Hold.mk hs
      repeat' (first | simp only [seval, evx, beq_self_eq_true, insA, encIns, dq9, *] | simp (disch := omega) only [if_pos, if_neg] | refine zG ?_ | refine zH ?_ | refine zI rfl ?_ | refine zK ?_ | refine zL ?_ | refine zM ?_ | refine zN ?_ | refine zO ?_ | ((first | refine zP hcl ?_ | refine zQ hcl ?_); simp only [seval, evw, fm, insA, encIns, dq9, *]) | ((first | refine zB ?_ ?_ | refine zD ?_ ?_ | refine zF ?_ ?_) <;> (intro hc; try simp only [seval, nf] at hc)) | refine zR ?_ | refine CallX.inst ?_ | (with_reducible refine And.intro ?_ ?_) | exact True.intro)
      (refine RetOk.upd (.tup []) (g5 _) (by rw [List.length_set]; exact hcl.set (vec_clean (by simp [cl_wc, cleanAll, AV.clean]))) ?_ ⟨rfl, rfl⟩; exact .same _ rfl)
  by_cases o14 : op = 14
  · subst o14
    have hW2 := hW.of
    rw [if_neg (by omega), if_pos rfl] at hW2
    unfold hStoreA ints at hst
    clear hW
    generalize hStore s.heap va vb = q at *
    obtain ⟨h', how⟩ := q
    simp only at hW2 hst hsh
    replace hW2 := Hold.mk hW2
    by_cases hh : how = 0
    · subst hh
      have hW3 := hW2.of
      rw [if_pos rfl] at hW3
      subst hW3
      clear hW2
      repeat' (first | simp only [seval, evx, beq_self_eq_true, insA, encIns, dq9, *] | simp (disch := omega) only [if_pos, if_neg] | refine zG ?_ | refine zH ?_ | refine zI rfl ?_ | refine zK ?_ | refine zL ?_ | refine zM ?_ | refine zN ?_ | refine zO ?_ | ((first | refine zP hcl ?_ | refine zQ hcl ?_); simp only [seval, evw, fm, insA, encIns, dq9, *]) | ((first | refine zB ?_ ?_ | refine zD ?_ ?_ | refine zF ?_ ?_) <;> (intro hc; try simp only [seval, nf] at hc)) | refine zR ?_ | refine CallX.inst ?_ | (with_reducible refine And.intro ?_ ?_) | exact True.intro)
      first | refine zT (hst.of) ?_ | refine zV (hst.of) rfl ?_ | refine zU (hst.of) ?_
      repeat' (first | simp only [seval, evx, beq_self_eq_true, insA, encIns, dq9, *] | simp (disch := omega) only [if_pos, if_neg] | refine zG ?_ | refine zH ?_ | refine zI rfl ?_ | refine zK ?_ | refine zL ?_ | refine zM ?_ | refine zN ?_ | refine zO ?_ | ((first | refine zP hcl ?_ | refine zQ hcl ?_); simp only [seval, evw, fm, insA, encIns, dq9, *]) | ((first | refine zB ?_ ?_ | refine zD ?_ ?_ | refine zF ?_ ?_) <;> (intro hc; try simp only [seval, nf] at hc)) | refine zR ?_ | refine CallX.inst ?_ | (with_reducible refine And.intro ?_ ?_) | exact True.intro)
      (refine RetOk.upd (.tup []) (g5 _) (by rw [List.length_set]; exact hcl.set (vec_clean (by simp [cl_wc, cleanAll, AV.clean]))) ?_ ⟨rfl, rfl⟩; exact .same _ rfl)
    · have hW3 := hW2.of
      rw [if_neg hh] at hW3
      subst hW3
      clear hW2
      repeat' (first | simp only [seval, evx, beq_self_eq_true, insA, encIns, dq9, *] | simp (disch := omega) only [if_pos, if_neg] | refine zG ?_ | refine zH ?_ | refine zI rfl ?_ | refine zK ?_ | refine zL ?_ | refine zM ?_ | refine zN ?_ | refine zO ?_ | ((first | refine zP hcl ?_ | refine zQ hcl ?_); simp only [seval, evw, fm, insA, encIns, dq9, *]) | ((first | refine zB ?_ ?_ | refine zD ?_ ?_ | refine zF ?_ ?_) <;> (intro hc; try simp only [seval, nf] at hc)) | refine zR ?_ | refine CallX.inst ?_ | (with_reducible refine And.intro ?_ ?_) | exact True.intro)
      first | refine zT (hst.of) ?_ | refine zV (hst.of) rfl ?_ | refine zU (hst.of) ?_
      repeat' (first | simp only [seval, evx, beq_self_eq_true, insA, encIns, dq9, *] | simp (disch := omega) only [if_pos, if_neg] | refine zG ?_ | refine zH ?_ | refine zI rfl ?_ | refine zK ?_ | refine zL ?_ | refine zM ?_ | refine zN ?_ | refine zO ?_ | ((first | refine zP hcl ?_ | refine zQ hcl ?_); simp only [seval, evw, fm, insA, encIns, dq9, *]) | ((first | refine zB ?_ ?_ | refine zD ?_ ?_ | refine zF ?_ ?_) <;> (intro hc; try simp only [seval, nf] at hc)) | refine zR ?_ | refine CallX.inst ?_ | (with_reducible refine And.intro ?_ ?_) | exact True.intro)
      (refine RetOk.upd (.tup []) (g5 _) (by rw [List.length_set]; exact hcl.set (vec_clean (by simp [cl_wc, cleanAll, AV.clean]))) ?_ ⟨rfl, rfl⟩; exact .same _ rfl)
  by_cases o15 : op = 15
  · subst o15
    have hW2 := hW.of
    rw [if_neg (by omega), if_neg (by omega), if_pos rfl] at hW2
    clear hW
    have hc2 := hcall.of va
    clear hcall
    by_cases hlt : s.asked < (ask.length : Int)
    · rw [if_pos hlt] at hW2
      simp only [hlt, if_true] at hc2
      subst hW2
      generalize hcs : callS s d (ask.getD s.asked.toNat 0) = s' at *
      have hpc' : s'.pc = s.pc := by rw [← hcs]; rfl
      have hlc' : (wc s'.L).length = 48 := by rw [wc_len, ← hcs]; simp [callS, hL.of]
      generalize ask.getD s.asked.toNat 0 = ans at *
      replace hcs := Hold.mk hcs
      replace hpc' := Hold.mk hpc'
      replace hc2 := Hold.mk hc2
      clear hlt
      repeat' (first | simp only [seval, evx, beq_self_eq_true, insA, encIns, dq9, *] | simp (disch := omega) only [if_pos, if_neg] | refine zG ?_ | refine zH ?_ | refine zI rfl ?_ | refine zK ?_ | refine zL ?_ | refine zM ?_ | refine zN ?_ | refine zO ?_ | ((first | refine zP hcl ?_ | refine zQ hcl ?_); simp only [seval, evw, fm, insA, encIns, dq9, *]) | ((first | refine zB ?_ ?_ | refine zD ?_ ?_ | refine zF ?_ ?_) <;> (intro hc; try simp only [seval, nf] at hc)) | refine zR ?_ | refine CallX.inst ?_ | (with_reducible refine And.intro ?_ ?_) | exact True.intro)
      refine hc2.of.mono ?_
      rintro r' H' ⟨rfl, rfl⟩
      repeat' (first | simp only [seval, evx, beq_self_eq_true, insA, encIns, dq9, *] | simp (disch := omega) only [if_pos, if_neg] | refine zG ?_ | refine zH ?_ | refine zI rfl ?_ | refine zK ?_ | refine zL ?_ | refine zM ?_ | refine zN ?_ | refine zO ?_ | ((first | refine zP hcl ?_ | refine zQ hcl ?_); simp only [seval, evw, fm, insA, encIns, dq9, *]) | ((first | refine zB ?_ ?_ | refine zD ?_ ?_ | refine zF ?_ ?_) <;> (intro hc; try simp only [seval, nf] at hc)) | refine zR ?_ | refine CallX.inst ?_ | (with_reducible refine And.intro ?_ ?_) | exact True.intro)
      (refine RetOk.upd (.tup []) (g5 _) (by rw [List.length_set]; exact hcl.set (vec_clean (by simp [cl_wc, cleanAll, AV.clean]))) ?_ ⟨rfl, rfl⟩; exact .same _ rfl)
    · rw [if_neg hlt] at hW2
      simp only [hlt, if_false] at hc2
      subst hW2
      replace hc2 := Hold.mk hc2
      clear hlt
      repeat' (first | simp only [seval, evx, beq_self_eq_true, insA, encIns, dq9, *] | simp (disch := omega) only [if_pos, if_neg] | refine zG ?_ | refine zH ?_ | refine zI rfl ?_ | refine zK ?_ | refine zL ?_ | refine zM ?_ | refine zN ?_ | refine zO ?_ | ((first | refine zP hcl ?_ | refine zQ hcl ?_); simp only [seval, evw, fm, insA, encIns, dq9, *]) | ((first | refine zB ?_ ?_ | refine zD ?_ ?_ | refine zF ?_ ?_) <;> (intro hc; try simp only [seval, nf] at hc)) | refine zR ?_ | refine CallX.inst ?_ | (with_reducible refine And.intro ?_ ?_) | exact True.intro)
      refine hc2.of.mono ?_
      rintro r' H' ⟨rfl, rfl⟩
      repeat' (first | simp only [seval, evx, beq_self_eq_true, insA, encIns, dq9, *] | simp (disch := omega) only [if_pos, if_neg] | refine zG ?_ | refine zH ?_ | refine zI rfl ?_ | refine zK ?_ | refine zL ?_ | refine zM ?_ | refine zN ?_ | refine zO ?_ | ((first | refine zP hcl ?_ | refine zQ hcl ?_); simp only [seval, evw, fm, insA, encIns, dq9, *]) | ((first | refine zB ?_ ?_ | refine zD ?_ ?_ | refine zF ?_ ?_) <;> (intro hc; try simp only [seval, nf] at hc)) | refine zR ?_ | refine CallX.inst ?_ | (with_reducible refine And.intro ?_ ?_) | exact True.intro)
      (refine RetOk.upd (.tup []) (g5 _) (by rw [List.length_set]; exact hcl.set (vec_clean (by simp [cl_wc, cleanAll, AV.clean]))) ?_ ⟨rfl, rfl⟩; exact .same _ rfl)
  by_cases o18 : op = 18
  · subst o18
    have hW2 := hW.of
    rw [if_neg (by omega), if_neg (by omega), if_neg (by omega), if_pos rfl] at hW2
    clear hW
    subst hW2
    repeat' (first | simp only [seval, evx, beq_self_eq_true, insA, encIns, dq9, *] | simp (disch := omega) only [if_pos, if_neg] | refine zG ?_ | refine zH ?_ | refine zI rfl ?_ | refine zK ?_ | refine zL ?_ | refine zM ?_ | refine zN ?_ | refine zO ?_ | ((first | refine zP hcl ?_ | refine zQ hcl ?_); simp only [seval, evw, fm, insA, encIns, dq9, *]) | ((first | refine zB ?_ ?_ | refine zD ?_ ?_ | refine zF ?_ ?_) <;> (intro hc; try simp only [seval, nf] at hc)) | refine zR ?_ | refine CallX.inst ?_ | (with_reducible refine And.intro ?_ ?_) | exact True.intro)
    (refine RetOk.upd (.tup []) (g5 _) (by rw [List.length_set]; exact hcl.set (vec_clean (by simp [cl_wc, cleanAll, AV.clean]))) ?_ ⟨rfl, rfl⟩; exact .same _ rfl)
  by_cases o17 : op = 17
  · subst o17
    have hW2 := hW.of
    rw [if_neg (by omega), if_neg (by omega), if_neg (by omega), if_neg (by omega), if_pos rfl] at hW2
    clear hW
    by_cases hz : va = 0
    · rw [if_pos hz] at hW2
      subst hW2
      subst hz
      repeat' (first | simp only [seval, evx, beq_self_eq_true, insA, encIns, dq9, *] | simp (disch := omega) only [if_pos, if_neg] | refine zG ?_ | refine zH ?_ | refine zI rfl ?_ | refine zK ?_ | refine zL ?_ | refine zM ?_ | refine zN ?_ | refine zO ?_ | ((first | refine zP hcl ?_ | refine zQ hcl ?_); simp only [seval, evw, fm, insA, encIns, dq9, *]) | ((first | refine zB ?_ ?_ | refine zD ?_ ?_ | refine zF ?_ ?_) <;> (intro hc; try simp only [seval, nf] at hc)) | refine zR ?_ | refine CallX.inst ?_ | (with_reducible refine And.intro ?_ ?_) | exact True.intro)
      (refine RetOk.upd (.tup []) (g5 _) (by rw [List.length_set]; exact hcl.set (vec_clean (by simp [cl_wc, cleanAll, AV.clean]))) ?_ ⟨rfl, rfl⟩; exact .same _ rfl)
    · rw [if_neg hz] at hW2
      subst hW2
      repeat' (first | simp only [seval, evx, beq_self_eq_true, insA, encIns, dq9, *] | simp (disch := omega) only [if_pos, if_neg] | refine zG ?_ | refine zH ?_ | refine zI rfl ?_ | refine zK ?_ | refine zL ?_ | refine zM ?_ | refine zN ?_ | refine zO ?_ | ((first | refine zP hcl ?_ | refine zQ hcl ?_); simp only [seval, evw, fm, insA, encIns, dq9, *]) | ((first | refine zB ?_ ?_ | refine zD ?_ ?_ | refine zF ?_ ?_) <;> (intro hc; try simp only [seval, nf] at hc)) | refine zR ?_ | refine CallX.inst ?_ | (with_reducible refine And.intro ?_ ?_) | exact True.intro)
      (refine RetOk.upd (.tup []) (g5 _) (by rw [List.length_set]; exact hcl.set (vec_clean (by simp [cl_wc, cleanAll, AV.clean]))) ?_ ⟨rfl, rfl⟩; exact .same _ rfl)
  by_cases o16 : op = 16
  · subst o16
    have hW2 := hW.of
    rw [if_neg (by omega), if_neg (by omega), if_neg (by omega), if_neg (by omega), if_neg (by omega), if_pos rfl] at hW2
    clear hW
    subst hW2
    repeat' (first | simp only [seval, evx, beq_self_eq_true, insA, encIns, dq9, *] | simp (disch := omega) only [if_pos, if_neg] | refine zG ?_ | refine zH ?_ | refine zI rfl ?_ | refine zK ?_ | refine zL ?_ | refine zM ?_ | refine zN ?_ | refine zO ?_ | ((first | refine zP hcl ?_ | refine zQ hcl ?_); simp only [seval, evw, fm, insA, encIns, dq9, *]) | ((first | refine zB ?_ ?_ | refine zD ?_ ?_ | refine zF ?_ ?_) <;> (intro hc; try simp only [seval, nf] at hc)) | refine zR ?_ | refine CallX.inst ?_ | (with_reducible refine And.intro ?_ ?_) | exact True.intro)
    (refine RetOk.upd (.tup []) (g5 _) (by rw [List.length_set]; exact hcl.set (vec_clean (by simp [cl_wc, cleanAll, AV.clean]))) ?_ ⟨rfl, rfl⟩; exact .same _ rfl)
  by_cases om : op = 1 ∨ op = 2 ∨ op = 3
  · have hW2 := hW.of
    rw [if_neg (by omega), if_neg (by omega), if_neg (by omega), if_neg (by omega), if_neg (by omega), if_neg (by omega), if_pos om] at hW2
    clear hW
    have hm := hmove.of om
    clear hmove
    have hmB : movesB op = true := by simp [movesB]; omega
    rw [hmB] at hins
    subst hW2
    generalize hms : moveS s ⟨op, (d : Int), (a : Int), (b : Int), xn, xto⟩ = s' at *
    have hlc' : (wc s'.L).length = 48 := by rw [wc_len, hlm.of, hL.of]
    replace hms := Hold.mk hms
    replace hm := Hold.mk hm
    clear om
    repeat' (first | simp only [seval, evx, beq_self_eq_true, insA, encIns, dq9, *] | simp (disch := omega) only [if_pos, if_neg] | refine zG ?_ | refine zH ?_ | refine zI rfl ?_ | refine zK ?_ | refine zL ?_ | refine zM ?_ | refine zN ?_ | refine zO ?_ | ((first | refine zP hcl ?_ | refine zQ hcl ?_); simp only [seval, evw, fm, insA, encIns, dq9, *]) | ((first | refine zB ?_ ?_ | refine zD ?_ ?_ | refine zF ?_ ?_) <;> (intro hc; try simp only [seval, nf] at hc)) | refine zR ?_ | refine CallX.inst ?_ | (with_reducible refine And.intro ?_ ?_) | exact True.intro)
    refine hm.of.mono ?_
    rintro r' H' ⟨rfl, rfl⟩
    repeat' (first | simp only [seval, evx, beq_self_eq_true, insA, encIns, dq9, *] | simp (disch := omega) only [if_pos, if_neg] | refine zG ?_ | refine zH ?_ | refine zI rfl ?_ | refine zK ?_ | refine zL ?_ | refine zM ?_ | refine zN ?_ | refine zO ?_ | ((first | refine zP hcl ?_ | refine zQ hcl ?_); simp only [seval, evw, fm, insA, encIns, dq9, *]) | ((first | refine zB ?_ ?_ | refine zD ?_ ?_ | refine zF ?_ ?_) <;> (intro hc; try simp only [seval, nf] at hc)) | refine zR ?_ | refine CallX.inst ?_ | (with_reducible refine And.intro ?_ ?_) | exact True.intro)
    (refine RetOk.upd (.tup []) (g5 _) (by rw [List.length_set]; exact hcl.set (vec_clean (by simp [cl_wc, cleanAll, AV.clean]))) ?_ ⟨rfl, rfl⟩; exact .same _ rfl)
  have hW2 := hW.of
  rw [if_neg o13, if_neg o14, if_neg o15, if_neg o18, if_neg o17, if_neg o16, if_neg om] at hW2
  clear hW
  have hmB : movesB op = false := by simp [movesB]; omega
  rw [hmB] at hins
  unfold nopR at hnum
  generalize numDo op va vb = q at *
  obtain ⟨v, how⟩ := q
  simp only at hW2 hnum
  replace hW2 := Hold.mk hW2
  replace om := Hold.mk om
  repeat' (first | simp only [seval, evx, beq_self_eq_true, insA, encIns, dq9, *] | simp (disch := omega) only [if_pos, if_neg] | refine zG ?_ | refine zH ?_ | refine zI rfl ?_ | refine zK ?_ | refine zL ?_ | refine zM ?_ | refine zN ?_ | refine zO ?_ | ((first | refine zP hcl ?_ | refine zQ hcl ?_); simp only [seval, evw, fm, insA, encIns, dq9, *]) | ((first | refine zB ?_ ?_ | refine zD ?_ ?_ | refine zF ?_ ?_) <;> (intro hc; try simp only [seval, nf] at hc)) | refine zR ?_ | refine CallX.inst ?_ | (with_reducible refine And.intro ?_ ?_) | exact True.intro)
  first | refine zT (hnum.of) ?_ | refine zV (hnum.of) rfl ?_ | refine zU (hnum.of) ?_
  repeat' (first | simp only [seval, evx, beq_self_eq_true, insA, encIns, dq9, *] | simp (disch := omega) only [if_pos, if_neg] | refine zG ?_ | refine zH ?_ | refine zI rfl ?_ | refine zK ?_ | refine zL ?_ | refine zM ?_ | refine zN ?_ | refine zO ?_ | ((first | refine zP hcl ?_ | refine zQ hcl ?_); simp only [seval, evw, fm, insA, encIns, dq9, *]) | ((first | refine zB ?_ ?_ | refine zD ?_ ?_ | refine zF ?_ ?_) <;> (intro hc; try simp only [seval, nf] at hc)) | refine zR ?_ | refine CallX.inst ?_ | (with_reducible refine And.intro ?_ ?_) | exact True.intro)
  refine (hset.of v how).mono ?_
  rintro r' H' ⟨rfl, rfl⟩
  replace hW2 := hW2.of
  by_cases hh : how = 0
  · subst hh
    rw [if_pos rfl] at hW2
    subst hW2
    have hs : setS s d v 0 = { s with L := s.L.set d ⟨true, v⟩ } := by simp [setS]
    rw [hs]
    replace hs := Hold.mk hs
    have hwl2 : (wc (s.L.set d ⟨true, v⟩)).length = 48 := by rw [wc_len, List.length_set, hL.of]
    repeat' (first | simp only [seval, evx, beq_self_eq_true, insA, encIns, dq9, *] | simp (disch := omega) only [if_pos, if_neg] | refine zG ?_ | refine zH ?_ | refine zI rfl ?_ | refine zK ?_ | refine zL ?_ | refine zM ?_ | refine zN ?_ | refine zO ?_ | ((first | refine zP hcl ?_ | refine zQ hcl ?_); simp only [seval, evw, fm, insA, encIns, dq9, *]) | ((first | refine zB ?_ ?_ | refine zD ?_ ?_ | refine zF ?_ ?_) <;> (intro hc; try simp only [seval, nf] at hc)) | refine zR ?_ | refine CallX.inst ?_ | (with_reducible refine And.intro ?_ ?_) | exact True.intro)
    (refine RetOk.upd (.tup []) (g5 _) (by rw [List.length_set]; exact hcl.set (vec_clean (by simp [cl_wc, cleanAll, AV.clean]))) ?_ ⟨rfl, rfl⟩; exact .same _ rfl)
  · rw [if_neg hh] at hW2
    subst hW2
    have hs : setS s d v how = s := by simp [setS, hh]
    rw [hs]
    replace hs := Hold.mk hs
    repeat' (first | simp only [seval, evx, beq_self_eq_true, insA, encIns, dq9, *] | simp (disch := omega) only [if_pos, if_neg] | refine zG ?_ | refine zH ?_ | refine zI rfl ?_ | refine zK ?_ | refine zL ?_ | refine zM ?_ | refine zN ?_ | refine zO ?_ | ((first | refine zP hcl ?_ | refine zQ hcl ?_); simp only [seval, evw, fm, insA, encIns, dq9, *]) | ((first | refine zB ?_ ?_ | refine zD ?_ ?_ | refine zF ?_ ?_) <;> (intro hc; try simp only [seval, nf] at hc)) | refine zR ?_ | refine CallX.inst ?_ | (with_reducible refine And.intro ?_ ?_) | exact True.intro)
    (refine RetOk.upd (.tup []) (g5 _) (by rw [List.length_set]; exact hcl.set (vec_clean (by simp [cl_wc, cleanAll, AV.clean]))) ?_ ⟨rfl, rfl⟩; exact .same _ rfl)
theorem uses_same (x : Ins) : usesL x = usesR x := by
  obtain ⟨op, d, a, b, n, to⟩ := x
  cases hok : opOk op
  · have h : ¬ (1 ≤ op ∧ op ≤ 18) := by simpa [opOk] using hok
    unfold usesL usesR
    simp only [hok, Bool.false_and, Bool.false_eq_true, if_false]
    rw [if_neg (by omega), if_neg (by omega)]
  · rcases op_cases hok with rfl | rfl | rfl | rfl | rfl | rfl | rfl | rfl | rfl | rfl | rfl | rfl | rfl | rfl | rfl | rfl | rfl | rfl <;> rfl
theorem places_of {x : Ins} {n : Int} (h : chk x n = 0) : ∃ d a b : Nat, x.d = (d : Int) ∧ d < 24 ∧ x.a = (a : Int) ∧ a < 24 ∧ x.b = (b : Int) ∧ b < 24 := by
  rw [chk_same] at h
  unfold chkR at h
  cases hf : badFormR x with
  | true => rw [hf, if_pos rfl] at h; simp at h
  | false =>
    cases hp : badPlaceR x with
    | true => rw [hf, hp] at h; simp at h
    | false =>
      have ho : onlyR x = x := by
        unfold badFormR at hf
        simp only [Bool.or_eq_false_iff] at hf
        simpa using hf.2.1
      have hb : x.b = sel (keepB x.op) x.b := by
        have := congrArg Ins.b ho
        exact this.symm
      unfold badPlaceR at hp
      by_cases h3 : x.op ≤ 3
      · rw [if_pos h3] at hp
        simp only [Bool.not_eq_false', Bool.and_eq_true, inR, decide_eq_true_eq] at hp
        have hb0 : x.b = 0 := by
          rw [hb]
          have : keepB x.op = false := by unfold keepB; simp; omega
          rw [this]; rfl
        exact ⟨x.d.toNat, x.a.toNat, 0, by omega, by omega, by omega, by omega, by omega, by omega⟩
      · rw [if_neg h3] at hp
        simp only [Bool.not_eq_false', Bool.and_eq_true, inR, decide_eq_true_eq] at hp
        exact ⟨x.d.toNat, x.a.toNat, x.b.toNat, by omega, by omega, by omega, by omega, by omega, by omega⟩
def wAt (L : List W) (l : Int) : W := L.getD l.toNat noW
def out0 : Out := ⟨0, 0, []⟩
def stepF (f : List Ins) (s : St) (ask : List Int) : St × List Ev × Out :=
  if (usesR (f.getD s.pc.toNat noIns)).all (fun l => (wAt s.L l).is) then
    ((stepW s (f.getD s.pc.toNat noIns) ask).1, (stepW s (f.getD s.pc.toNat noIns) ask).2.1, ⟨(stepW s (f.getD s.pc.toNat noIns) ask).2.2.1, (stepW s (f.getD s.pc.toNat noIns) ask).2.2.2, if (stepW s (f.getD s.pc.toNat noIns) ask).2.2.1 = 1 then s.heap else []⟩)
  else (s, [], ⟨2, 0, []⟩)
def st0 : St := ⟨List.replicate 24 noW, [], 0, 0⟩
def z51 : List AV := [.bool false, .int .i64 0, .bool false, .int .i64 0, .bool false, .int .i64 0, .bool false, .int .i64 0, .bool false, .int .i64 0, .bool false, .int .i64 0, .bool false, .int .i64 0, .bool false, .int .i64 0, .bool false, .int .i64 0, .bool false, .int .i64 0, .bool false, .int .i64 0, .bool false, .int .i64 0, .bool false, .int .i64 0, .bool false, .int .i64 0, .bool false, .int .i64 0, .bool false, .int .i64 0, .bool false, .int .i64 0, .bool false, .int .i64 0, .bool false, .int .i64 0, .bool false, .int .i64 0, .bool false, .int .i64 0, .bool false, .int .i64 0, .bool false, .int .i64 0, .bool false, .int .i64 0, .imm (.slice none 0 0), .int .i64 0, .int .i64 0]
theorem z51_eq : z51 = [.bool false, .int .i64 0, .bool false, .int .i64 0, .bool false, .int .i64 0, .bool false, .int .i64 0, .bool false, .int .i64 0, .bool false, .int .i64 0, .bool false, .int .i64 0, .bool false, .int .i64 0, .bool false, .int .i64 0, .bool false, .int .i64 0, .bool false, .int .i64 0, .bool false, .int .i64 0, .bool false, .int .i64 0, .bool false, .int .i64 0, .bool false, .int .i64 0, .bool false, .int .i64 0, .bool false, .int .i64 0, .bool false, .int .i64 0, .bool false, .int .i64 0, .bool false, .int .i64 0, .bool false, .int .i64 0, .bool false, .int .i64 0, .bool false, .int .i64 0, .bool false, .int .i64 0, .imm (.slice none 0 0), .int .i64 0, .int .i64 0] := rfl
theorem st0_eq : stA st0 = .agg [.bool false, .int .i64 0, .bool false, .int .i64 0, .bool false, .int .i64 0, .bool false, .int .i64 0, .bool false, .int .i64 0, .bool false, .int .i64 0, .bool false, .int .i64 0, .bool false, .int .i64 0, .bool false, .int .i64 0, .bool false, .int .i64 0, .bool false, .int .i64 0, .bool false, .int .i64 0, .bool false, .int .i64 0, .bool false, .int .i64 0, .bool false, .int .i64 0, .bool false, .int .i64 0, .bool false, .int .i64 0, .bool false, .int .i64 0, .bool false, .int .i64 0, .bool false, .int .i64 0, .bool false, .int .i64 0, .bool false, .int .i64 0, .bool false, .int .i64 0, .bool false, .int .i64 0, .list [], .int .i64 0, .int .i64 0] := rfl
def stepA (f : List Ins) (s : St) (ask : List Int) : AV := if stRight f s then .tup [stA (stepF f s ask).1, evs (stepF f s ask).2.1, outA (stepF f s ask).2.2, .int .i64 0] else .tup [stA st0, evs [], outA out0, .int .i64 1]
theorem stRight_iff {f : List Ins} {s : St} : stRight f s = true ↔ fnOk f = true ∧ 0 ≤ s.pc ∧ s.pc < (f.length : Int) ∧ s.heap.length ≤ 16 ∧ 0 ≤ s.asked ∧ s.L.all okW = true := by
  unfold stRight
  simp only [Bool.and_eq_true, decide_eq_true_eq]
theorem stepW_len (s : St) (x : Ins) (ask : List Int) : (stepW s x ask).1.L.length = s.L.length := by
  unfold stepW
  simp only
  (repeat' split) <;> simp [setS, callS, moveS_len]
theorem stepW_keep (s : St) (x : Ins) (ask : List Int) (h : (stepW s x ask).2.2.1 = 1) : (stepW s x ask).1 = s := by
  revert h
  unfold stepW
  simp only
  (repeat' split) <;> simp
theorem usesR_mem {x : Ins} {l : Int} (h : l ∈ usesR x) : l = x.a ∨ l = x.b := by
  unfold usesR at h
  (repeat' split at h) <;> simp at h <;> omega
theorem usesR_len (x : Ins) : (usesR x).length ≤ 2 := by
  unfold usesR
  (repeat' split) <;> simp
set_option linter.defProp false in
def dq10 := And.intro @sb (And.intro @ew (And.intro @ins_dec (And.intro @ins_eta (And.intro @wrow_eq (And.intro @evs_eq (And.intro @encEv_def (And.intro @List.map_cons.{0,0} (And.intro @List.map_nil.{0,0} (@z51_eq)))))))))
set_option maxHeartbeats 4000000 in
theorem step_Do_ok (f : List Ins) (s : St) (ask : List Int) (hL : s.L.length = 24) (hask : (ask.length : Int) ≤ 9223372036854775807) : Pure Tryd.prog 46 [encFn f, stA s, ints ask] (stepA f s ask) := by
  intro H
  refine ACalls.go step_Do.low (by simp) fun hcl => ?_
  have hwl : (wc s.L).length = 48 := by rw [wc_len, hL]
  have h1 := step_Right_ok f s hL
  unfold stepA
  by_cases hR : stRight f s = true
  case neg =>
    have hR2 : stRight f s = false := by simpa using hR
    rw [if_neg hR, st0_eq, outA_eq]
    rw [hR2] at h1
    rw [stA_eq] at *
    unfold encFn ints out0 at *
    replace h1 := Hold.mk h1
    replace hL := Hold.mk hL
    clear hR hR2
    repeat' (first | simp only [seval, evx, beq_self_eq_true, insA, encIns, dq10, *] | simp (disch := omega) only [if_pos, if_neg] | refine zG ?_ | refine zH ?_ | refine zI rfl ?_ | refine zK ?_ | refine zL ?_ | refine zM ?_ | refine zN ?_ | refine zO ?_ | ((first | refine zP hcl ?_ | refine zQ hcl ?_); simp only [seval, evw, fm, insA, encIns, dq10, *]) | ((first | refine zB ?_ ?_ | refine zD ?_ ?_ | refine zF ?_ ?_) <;> (intro hc; try simp only [seval, nf] at hc)) | refine zR ?_ | refine CallX.inst ?_ | (with_reducible refine And.intro ?_ ?_) | exact True.intro)
    first | refine zT (h1.of) ?_ | refine zV (h1.of) rfl ?_ | refine zU (h1.of) ?_
    repeat' (first | simp only [seval, evx, beq_self_eq_true, insA, encIns, dq10, *] | simp (disch := omega) only [if_pos, if_neg] | refine zG ?_ | refine zH ?_ | refine zI rfl ?_ | refine zK ?_ | refine zL ?_ | refine zM ?_ | refine zN ?_ | refine zO ?_ | ((first | refine zP hcl ?_ | refine zQ hcl ?_); simp only [seval, evw, fm, insA, encIns, dq10, *]) | ((first | refine zB ?_ ?_ | refine zD ?_ ?_ | refine zF ?_ ?_) <;> (intro hc; try simp only [seval, nf] at hc)) | refine zR ?_ | refine CallX.inst ?_ | (with_reducible refine And.intro ?_ ?_) | exact True.intro)
  rw [if_pos hR]
  rw [hR] at h1
  obtain ⟨r1, r2, r3, r4, r5, _⟩ := stRight_iff.1 hR
  obtain ⟨f1, f2, f3, _⟩ := fnOk_iff.1 r1
  obtain ⟨L, heap, pc, asked⟩ := s
  simp only at r2 r3 r4 r5 hL hwl
  obtain ⟨n, rfl⟩ := Int.eq_ofNat_of_zero_le r2
  have hn : n < f.length := by omega
  have hg := getD_encIns hn
  have hmem : f.getD n noIns ∈ f := by simp [List.getD, hn]
  obtain ⟨d, a, b, hd, hd2, ha, ha2, hb, hb2⟩ := places_of (f3 _ hmem)
  have hF : stepF f ⟨L, heap, (n : Int), asked⟩ ask = if (usesR (f.getD n noIns)).all (fun l => (wAt L l).is) then
    ((stepW ⟨L, heap, (n : Int), asked⟩ (f.getD n noIns) ask).1, (stepW ⟨L, heap, (n : Int), asked⟩ (f.getD n noIns) ask).2.1, ⟨(stepW ⟨L, heap, (n : Int), asked⟩ (f.getD n noIns) ask).2.2.1, (stepW ⟨L, heap, (n : Int), asked⟩ (f.getD n noIns) ask).2.2.2, if (stepW ⟨L, heap, (n : Int), asked⟩ (f.getD n noIns) ask).2.2.1 = 1 then heap else []⟩)
    else (⟨L, heap, (n : Int), asked⟩, [], ⟨2, 0, []⟩) := rfl
  have huse := ins_Uses_ok (f.getD n noIns)
  rw [uses_same] at huse
  have hum : ∀ l ∈ usesR (f.getD n noIns), ∃ m : Nat, l = (m : Int) ∧ m < 24 := fun l hl => by
    rcases usesR_mem hl with h | h
    · exact ⟨a, by rw [h, ha], ha2⟩
    · exact ⟨b, by rw [h, hb], hb2⟩
  have hul := usesR_len (f.getD n noIns)
  have hown := step_own_ok ⟨L, heap, (n : Int), asked⟩ hL (by simp only; omega)
  have hsl := stepW_len ⟨L, heap, (n : Int), asked⟩ (f.getD n noIns) ask
  have hsk := stepW_keep ⟨L, heap, (n : Int), asked⟩ (f.getD n noIns) ask
  have e1 : (n : Int) < (f.length : Int) := by omega
  have hdo := fun (G : List AObj) (k : Nat) hk hx => work_do_ok (H := G) (k := k) (s := ⟨L, heap, (n : Int), asked⟩) (x := f.getD n noIns) (ask := ask) d a b hd hd2 ha ha2 hb hb2 hk hx hL r5 hask (by simp only; omega) (by simp only; omega)
  generalize stepF f ⟨L, heap, (n : Int), asked⟩ ask = RES at *
  generalize f.getD n noIns = x at *
  generalize usesR x = U at *
  generalize stepW ⟨L, heap, (n : Int), asked⟩ x ask = q at *
  obtain ⟨s', ev, how, value⟩ := q
  simp only at hF hdo hsl hsk
  have hwl' : (wc s'.L).length = 48 := by rw [wc_len, hsl, hL]
  rw [insA_eq] at huse
  simp only [stA_eq, outA_eq] at h1 hown ⊢
  unfold encFn ints encInts at *
  replace h1 := Hold.mk h1
  replace hL := Hold.mk hL
  replace hF := Hold.mk hF
  replace hsl := Hold.mk hsl
  replace hsk := Hold.mk hsk
  replace huse := Hold.mk huse
  replace hum := Hold.mk hum
  replace hown := Hold.mk hown
  replace hdo := Hold.mk hdo
  replace hd := Hold.mk hd
  replace ha := Hold.mk ha
  replace hb := Hold.mk hb
  clear hR r1 f3 hmem r2 r3
  (refine zG ?_; refine zH ?_; repeat' (first | simp only [seval, evx, beq_self_eq_true, insA, encIns, dq10, *] | simp (disch := omega) only [if_pos, if_neg]))
  refine R.cut [(0, .list (f.map encIns)), (2, .list (ask.map encI)), (4, .ptr H.length 1 0 0), (6, .ptr (H.length + 1) 1 0 0), (8, .ptr (H.length + 2) 1 0 0)] (H ++ [.vec 51 [wc L ++ [.list (heap.map encI), .int .i64 (n : Int), .int .i64 asked]], .vec 51 [z51], .vec 3 [[.int .i64 0, .int .i64 0, .imm (.slice none 0 0)]]]) ?_ ?_
  · repeat' (first | simp only [seval, evx, beq_self_eq_true, insA, encIns, dq10, *] | simp (disch := omega) only [if_pos, if_neg] | refine zG ?_ | refine zH ?_ | refine zI rfl ?_ | refine zK ?_ | refine zL ?_ | refine zM ?_ | refine zN ?_ | refine zO ?_ | ((first | refine zP hcl ?_ | refine zQ hcl ?_); simp only [seval, evw, fm, insA, encIns, dq10, *]) | ((first | refine zB ?_ ?_ | refine zD ?_ ?_ | refine zF ?_ ?_) <;> (intro hc; try simp only [seval, nf] at hc)) | refine zR ?_ | refine CallX.inst ?_ | (with_reducible refine And.intro ?_ ?_) | exact True.intro)
    first | refine zT (h1.of) ?_ | refine zV (h1.of) rfl ?_ | refine zU (h1.of) ?_
    repeat' (first | simp only [seval, evx, beq_self_eq_true, insA, encIns, dq10, *] | simp (disch := omega) only [if_pos, if_neg] | refine zG ?_ | refine zH ?_ | refine zI rfl ?_ | refine zK ?_ | refine zL ?_ | refine zM ?_ | refine zN ?_ | refine zO ?_ | ((first | refine zP hcl ?_ | refine zQ hcl ?_); simp only [seval, evw, fm, insA, encIns, dq10, *]) | ((first | refine zB ?_ ?_ | refine zD ?_ ?_ | refine zF ?_ ?_) <;> (intro hc; try simp only [seval, nf] at hc)) | refine zR ?_ | refine CallX.inst ?_ | (with_reducible refine And.intro ?_ ?_) | exact True.intro)
  refine R.cut [(4, .ptr H.length 1 0 0), (6, .ptr (H.length + 1) 1 0 0), (8, .ptr (H.length + 2) 1 0 0), (10, .ptr (H.length + 3) 1 0 0)] (H ++ [.vec 51 [wc L ++ [.list (heap.map encI), .int .i64 (n : Int), .int .i64 asked]], .vec 51 [z51], .vec 3 [[.int .i64 0, .int .i64 0, .imm (.slice none 0 0)]], .vec 61 [wrow ⟨L, heap, (n : Int), asked⟩ x ask (.imm (.slice none 0 0)) 0 0]]) ?_ ?_
  · repeat' (first | simp only [seval, evx, beq_self_eq_true, insA, encIns, dq10, *] | simp (disch := omega) only [if_pos, if_neg] | refine zG ?_ | refine zH ?_ | refine zI rfl ?_ | refine zK ?_ | refine zL ?_ | refine zM ?_ | refine zN ?_ | refine zO ?_ | ((first | refine zP hcl ?_ | refine zQ hcl ?_); simp only [seval, evw, fm, insA, encIns, dq10, *]) | ((first | refine zB ?_ ?_ | refine zD ?_ ?_ | refine zF ?_ ?_) <;> (intro hc; try simp only [seval, nf] at hc)) | refine zR ?_ | refine CallX.inst ?_ | (with_reducible refine And.intro ?_ ?_) | exact True.intro)
    first | refine zT (hown.of) ?_ | refine zV (hown.of) rfl ?_ | refine zU (hown.of) ?_
    repeat' (first | simp only [seval, evx, beq_self_eq_true, insA, encIns, dq10, *] | simp (disch := omega) only [if_pos, if_neg] | refine zG ?_ | refine zH ?_ | refine zI rfl ?_ | refine zK ?_ | refine zL ?_ | refine zM ?_ | refine zN ?_ | refine zO ?_ | ((first | refine zP hcl ?_ | refine zQ hcl ?_); simp only [seval, evw, fm, insA, encIns, dq10, *]) | ((first | refine zB ?_ ?_ | refine zD ?_ ?_ | refine zF ?_ ?_) <;> (intro hc; try simp only [seval, nf] at hc)) | refine zR ?_ | refine CallX.inst ?_ | (with_reducible refine And.intro ?_ ?_) | exact True.intro)
  refine LCB.pre (Weak.loseAt [.vec 51 [wc L ++ [.list (heap.map encI), .int .i64 (n : Int), .int .i64 asked]], .vec 51 [z51], .vec 3 [[.int .i64 0, .int .i64 0, .imm (.slice none 0 0)]], .vec 61 [wrow ⟨L, heap, (n : Int), asked⟩ x ask (.list []) 0 0]] [(4, .ptr H.length 1 0 0), (6, .ptr (H.length + 1) 1 0 0), (8, .ptr (H.length + 2) 1 0 0), (10, .ptr (H.length + 3) 1 0 0)] (by simp only [seval, evw, lk, fm, sb, ew, insA, encIns, ins_dec, ins_eta, wrow_eq, evs_eq, encEv_def, List.map_cons, List.map_nil, z51_eq, *])) ?_
  have hU : Hold (U.all (fun l => (wAt L l).is) = (U.drop 0).all (fun l => (wAt L l).is)) := ⟨rfl⟩
  repeat' (first | simp only [seval, evx, beq_self_eq_true, insA, encIns, dq10, *] | simp (disch := omega) only [if_pos, if_neg] | refine zG ?_ | refine zH ?_ | refine zI rfl ?_ | refine zK ?_ | refine zL ?_ | refine zM ?_ | refine zN ?_ | refine zO ?_ | ((first | refine zP hcl ?_ | refine zQ hcl ?_); simp only [seval, evw, fm, insA, encIns, dq10, *]) | ((first | refine zB ?_ ?_ | refine zD ?_ ?_ | refine zF ?_ ?_) <;> (intro hc; try simp only [seval, nf] at hc)) | refine zR ?_ | refine CallX.inst ?_ | (with_reducible refine And.intro ?_ ?_) | exact True.intro)
  first | refine zT (huse.of) ?_ | refine zV (huse.of) rfl ?_ | refine zU (huse.of) ?_
  repeat' (first | simp only [seval, evx, beq_self_eq_true, insA, encIns, dq10, *] | simp (disch := omega) only [if_pos, if_neg] | refine zG ?_ | refine zH ?_ | refine zI rfl ?_ | refine zK ?_ | refine zL ?_ | refine zM ?_ | refine zN ?_ | refine zO ?_ | ((first | refine zP hcl ?_ | refine zQ hcl ?_); simp only [seval, evw, fm, insA, encIns, dq10, *]) | ((first | refine zB ?_ ?_ | refine zD ?_ ?_ | refine zF ?_ ?_) <;> (intro hc; try simp only [seval, nf] at hc)) | refine zR ?_ | refine CallX.inst ?_ | (with_reducible refine And.intro ?_ ?_) | exact True.intro)
  refine R.loop (S := Nat) ⟨fun i => [(4, .ptr H.length 1 0 0), (6, .ptr (H.length + 1) 1 0 0), (8, .ptr (H.length + 2) 1 0 0), (10, .ptr (H.length + 3) 1 0 0), (34, .list (U.map encI)), (35, .int .i64 (U.length : Int)), (36, .int .i64 (i : Int))],
    fun i => H ++ [.vec 51 [wc L ++ [.list (heap.map encI), .int .i64 (n : Int), .int .i64 asked]], .vec 51 [z51], .vec 3 [[.int .i64 0, .int .i64 0, .imm (.slice none 0 0)]], .vec 61 [wrow ⟨L, heap, (n : Int), asked⟩ x ask (.list []) 0 0]],
    fun i => i ≤ U.length ∧ U.all (fun l => (wAt L l).is) = (U.drop i).all (fun l => (wAt L l).is), fun i => U.length - i⟩ 0 ⟨Nat.zero_le _, hU.of⟩ (Weak.at hcl ?_) ?_
  · simp only [seval, evw, fm, insA, encIns, dq10, *]
  rintro i ⟨hi, hq⟩
  simp only at hi hq ⊢
  by_cases hlt : i < U.length
  · have e2 : (i : Int) < (U.length : Int) := by omega
    have e3 : IntKind.i64.wrap ((i : Int) + 1) = ((i + 1 : Nat) : Int) := by rw [IntKind.wrap_i64]; omega
    have hgu := getD_encI hlt
    obtain ⟨m, hm, hm2⟩ := hum.of (U.getD i 0) (by simp [List.getD, hlt])
    rw [hm] at hgu
    have hdr : U.drop i = U.getD i 0 :: U.drop (i + 1) := by
      rw [List.drop_eq_getElem_cons hlt]
      simp [List.getD, hlt]
    rw [hdr, hm, List.all_cons] at hq
    have hll := hL.of
    have hgi := wr_is (L := L) (r := [.list (heap.map encI), .int .i64 (n : Int), .int .i64 asked]) (i := m) (by omega)
    have e4 : (m : Int) < 24 := by omega
    have hwm : wAt L (m : Int) = L.getD m noW := by simp [wAt]
    rw [hwm] at hq
    generalize L.getD m noW = w at *
    clear hll
    replace hm := Hold.mk hm
    replace hdr := Hold.mk hdr
    replace hwm := Hold.mk hwm
    cases hwi : w.is
    · rw [hwi] at hgi hq
      have hF2 := hF.of
      rw [hq, Bool.false_and, if_neg (by simp)] at hF2
      subst hF2
      replace hq := Hold.mk hq
      replace hwi := Hold.mk hwi
      repeat' (first | simp only [seval, evx, beq_self_eq_true, insA, encIns, dq10, *] | simp (disch := omega) only [if_pos, if_neg] | refine zG ?_ | refine zH ?_ | refine zI rfl ?_ | refine zK ?_ | refine zL ?_ | refine zM ?_ | refine zN ?_ | refine zO ?_ | ((first | refine zP hcl ?_ | refine zQ hcl ?_); simp only [seval, evw, fm, insA, encIns, dq10, *]) | ((first | refine zB ?_ ?_ | refine zD ?_ ?_ | refine zF ?_ ?_) <;> (intro hc; try simp only [seval, nf] at hc)) | refine zR ?_ | refine CallX.inst ?_ | (with_reducible refine And.intro ?_ ?_) | exact True.intro)
    · rw [hwi, Bool.true_and] at hq
      rw [hwi] at hgi
      replace hq := Hold.mk hq
      replace hwi := Hold.mk hwi
      repeat' (first | simp only [seval, evx, beq_self_eq_true, insA, encIns, dq10, *] | simp (disch := omega) only [if_pos, if_neg] | refine zG ?_ | refine zH ?_ | refine zI rfl ?_ | refine zK ?_ | refine zL ?_ | refine zM ?_ | refine zN ?_ | refine zO ?_ | ((first | refine zP hcl ?_ | refine zQ hcl ?_); simp only [seval, evw, fm, insA, encIns, dq10, *]) | ((first | refine zB ?_ ?_ | refine zD ?_ ?_ | refine zF ?_ ?_) <;> (intro hc; try simp only [seval, nf] at hc)) | refine zR ?_ | refine CallX.inst ?_ | (with_reducible refine And.intro ?_ ?_) | exact True.intro)
      refine ⟨i + 1, ⟨hlt, hq.of⟩, by simp only; omega, Weak.at hcl ?_⟩
      simp only [seval, evw, fm, insA, encIns, dq10, *]
  · have hie : i = U.length := by omega
    subst hie
    have e2 : ¬ (U.length : Int) < (U.length : Int) := by omega
    rw [List.drop_length, List.all_nil] at hq
    have hF2 := hF.of
    rw [hq, if_pos rfl] at hF2
    subst hF2
    replace hq := Hold.mk hq
    have hd2' := hdo.of (H ++ [.vec 51 [wc L ++ [.list (heap.map encI), .int .i64 (n : Int), .int .i64 asked]], .vec 51 [z51], .vec 3 [[.int .i64 0, .int .i64 0, .imm (.slice none 0 0)]], .vec 61 [wrow ⟨L, heap, (n : Int), asked⟩ x ask (.list []) 0 0]]) (H.length + 3) (by simp) (by rw [hp_get]; rfl)
    replace hd2' := Hold.mk hd2'
    repeat' (first | simp only [seval, evx, beq_self_eq_true, insA, encIns, dq10, *] | simp (disch := omega) only [if_pos, if_neg] | refine zG ?_ | refine zH ?_ | refine zI rfl ?_ | refine zK ?_ | refine zL ?_ | refine zM ?_ | refine zN ?_ | refine zO ?_ | ((first | refine zP hcl ?_ | refine zQ hcl ?_); simp only [seval, evw, fm, insA, encIns, dq10, *]) | ((first | refine zB ?_ ?_ | refine zD ?_ ?_ | refine zF ?_ ?_) <;> (intro hc; try simp only [seval, nf] at hc)) | refine zR ?_ | refine CallX.inst ?_ | (with_reducible refine And.intro ?_ ?_) | exact True.intro)
    refine hd2'.of.mono ?_
    rintro r' H' ⟨rfl, rfl⟩
    by_cases h1w : how = 1
    · subst h1w
      have hs'' := hsk.of rfl
      subst hs''
      have rk : rowsOk 1 (heap.map encI) = true := rk_map fun x _ => ⟨rfl, rfl⟩
      have b1 : heap.length * 8 ≤ 140737488355328 := by omega
      have b2 : heap.length ≤ 9223372036854775807 := by omega
      have b3 : (0 + heap.length) * 8 ≤ 140737488355328 := by omega
      repeat' (first | simp only [seval, evx, beq_self_eq_true, insA, encIns, dq10, *] | simp (disch := omega) only [if_pos, if_neg] | refine zG ?_ | refine zH ?_ | refine zI rfl ?_ | refine zK ?_ | refine zL ?_ | refine zM ?_ | refine zN ?_ | refine zO ?_ | ((first | refine zP hcl ?_ | refine zQ hcl ?_); simp only [seval, evw, fm, insA, encIns, dq10, *]) | ((first | refine zB ?_ ?_ | refine zD ?_ ?_ | refine zF ?_ ?_) <;> (intro hc; try simp only [seval, nf] at hc)) | refine zR ?_ | refine CallX.inst ?_ | (with_reducible refine And.intro ?_ ?_) | exact True.intro)
    · rw [if_neg h1w]
      repeat' (first | simp only [seval, evx, beq_self_eq_true, insA, encIns, dq10, *] | simp (disch := omega) only [if_pos, if_neg] | refine zG ?_ | refine zH ?_ | refine zI rfl ?_ | refine zK ?_ | refine zL ?_ | refine zM ?_ | refine zN ?_ | refine zO ?_ | ((first | refine zP hcl ?_ | refine zQ hcl ?_); simp only [seval, evw, fm, insA, encIns, dq10, *]) | ((first | refine zB ?_ ?_ | refine zD ?_ ?_ | refine zF ?_ ?_) <;> (intro hc; try simp only [seval, nf] at hc)) | refine zR ?_ | refine CallX.inst ?_ | (with_reducible refine And.intro ?_ ?_) | exact True.intro)
theorem numDo_how (op a b : Int) : (numDo op a b).2 = 0 ∨ (numDo op a b).2 = 2 ∨ (numDo op a b).2 = 3 := by
  unfold numDo
  (repeat' split) <;> simp
def setField (x : Ins) (c : UInt8) (v : Int) : Ins := if c = 78 then { x with n := v } else if c = 84 then { x with to := v } else if c = 68 ∨ c = 100 then { x with d := v } else if c = 65 ∨ c = 97 then { x with a := v } else { x with b := v }
def fillV (c : UInt8) (w : List UInt8) : Option Int := if c = 78 ∨ c = 84 then numOf w else locOf w
theorem encIns_set {x : Ins} {c : UInt8} {v : Int} (h1 : c ≠ 78) (h2 : c ≠ 84) : (encIns x).take (offOf (c.toNat : Int)) ++ [.int .i64 v] ++ (encIns x).drop (offOf (c.toNat : Int) + 1) = encIns (setField x c v) := by
  unfold setField
  rw [if_neg h1, if_neg h2]
  have e (k : UInt8) : ((c.toNat : Int) = (k.toNat : Int)) ↔ c = k := ⟨fun h => UInt8.toNat_inj.1 (by omega), fun h => by rw [h]⟩
  have e1 := e 68
  have e2 := e 100
  have e3 := e 65
  have e4 := e 97
  have t1 : ((68 : UInt8).toNat : Int) = 68 := rfl
  have t2 : ((100 : UInt8).toNat : Int) = 100 := rfl
  have t3 : ((65 : UInt8).toNat : Int) = 65 := rfl
  have t4 : ((97 : UInt8).toNat : Int) = 97 := rfl
  rw [t1] at e1; rw [t2] at e2; rw [t3] at e3; rw [t4] at e4
  unfold offOf
  simp only [e1, e2, e3, e4]
  split
  · simp [encIns]
  · split <;> simp [encIns]
set_option linter.defProp false in
def dq11 := And.intro @encB_def (And.intro @encS_def (And.intro @sb (And.intro @ins_dec (@ins_eta))))
theorem ins_fill_ok {H : List AObj} {k : Nat} {x : Ins} (c : UInt8) (w : List UInt8) (hw : w.length ≤ 1000000) (hk : k < H.length) (hx : H[k]? = some (.vec 6 [encIns x])) :
    ACalls Tryd.prog 41 [.ptr k 1 0 0, .int .i32 (c.toNat : Int), .str (bs w)] H fun r H' => r = .int .i64 (if (fillV c w).isSome then 0 else 2) ∧ H' = H.set k (.vec 6 [encIns (setField x c ((fillV c w).getD 0))]) := by
  refine ACalls.go ins_fill.low (by simp) fun hcl => ?_
  have g1 : ∀ L : List AObj, (H ++ L)[k]? = some (.vec 6 [encIns x]) := fun L => by rw [in_get hk, hx]
  have g2 : ∀ (L : List AObj) (o : AObj), (H ++ L).set k o = H.set k o ++ L := fun L o => in_set hk
  have g3 : ∀ y : Ins, Clean (H.set k (.vec 6 [encIns y])).length (H.set k (.vec 6 [encIns y])) := fun y => by rw [List.length_set]; exact hcl.set (vec_clean (by simp [encIns, cleanAll, AV.clean]))
  have g4 : ∀ o : AObj, H.length ≤ (H.set k o).length := fun o => by simp
  clear hx
  by_cases h78 : c = 78
  · subst h78
    have e3 : ((UInt8.toNat 78 : Nat) : Int) = 78 := rfl
    have hp := num_Parse_ok w (by omega)
    have hf : fillV 78 w = numOf w := rfl
    have hs : ∀ v, setField x 78 v = { x with n := v } := fun v => rfl
    rw [hf, hs]
    unfold numP at hp
    generalize numOf w = r at *
    replace hp := Hold.mk hp
    replace g3 := Hold.mk g3
    replace g4 := Hold.mk g4
    repeat' (first | simp only [seval, evo, beq_self_eq_true, insA, encIns, dq11, *] | simp (disch := omega) only [if_pos, if_neg] | refine zG ?_ | refine zH ?_ | refine zI rfl ?_ | refine zJ rfl ?_ | refine zL ?_ | refine zM ?_ | refine zN ?_ | refine zO ?_ | ((first | refine zP hcl ?_ | refine zQ hcl ?_); simp only [seval, evw, fm, insA, encIns, dq11, *]) | ((first | refine zA ?_ ?_ | refine zC ?_ ?_ | refine zE ?_ ?_) <;> (intro hc; try simp only [seval, nf] at hc)) | refine zR ?_ | refine zS rfl ?_)
    refine ACalls.pure hp.of ?_
    repeat' (first | simp only [seval, evo, beq_self_eq_true, insA, encIns, dq11, *] | simp (disch := omega) only [if_pos, if_neg] | refine zG ?_ | refine zH ?_ | refine zI rfl ?_ | refine zJ rfl ?_ | refine zL ?_ | refine zM ?_ | refine zN ?_ | refine zO ?_ | ((first | refine zP hcl ?_ | refine zQ hcl ?_); simp only [seval, evw, fm, insA, encIns, dq11, *]) | ((first | refine zA ?_ ?_ | refine zC ?_ ?_ | refine zE ?_ ?_) <;> (intro hc; try simp only [seval, nf] at hc)) | refine zR ?_ | refine zS rfl ?_)
    refine RetOk.upd (.int .i64 (if r.isSome = true then 0 else 2)) (g4.of _) (g3.of { x with n := r.getD 0 }) ?_ ⟨rfl, rfl⟩
    simp only [seval, evw, fm, insA, encIns, dq11, *]
  have n78 : ¬ ((c.toNat : Int) = 78) := fun e => h78 (UInt8.toNat_inj.1 (by have : (78 : UInt8).toNat = 78 := rfl; omega))
  by_cases h84 : c = 84
  · subst h84
    have e3 : ((UInt8.toNat 84 : Nat) : Int) = 84 := rfl
    have hp := num_Parse_ok w (by omega)
    have hf : fillV 84 w = numOf w := rfl
    have hs : ∀ v, setField x 84 v = { x with to := v } := fun v => rfl
    have h64 : in64 ((numOf w).getD 0) := by
      cases h : numOf w with
      | none => exact ⟨by simp, by simp⟩
      | some n => exact (numOf_iff.1 h).1
    have hwr := wrap64 h64
    rw [hf, hs]
    unfold numP at hp
    generalize numOf w = r at *
    replace hp := Hold.mk hp
    replace g3 := Hold.mk g3
    replace g4 := Hold.mk g4
    clear n78
    repeat' (first | simp only [seval, evo, beq_self_eq_true, insA, encIns, dq11, *] | simp (disch := omega) only [if_pos, if_neg] | refine zG ?_ | refine zH ?_ | refine zI rfl ?_ | refine zJ rfl ?_ | refine zL ?_ | refine zM ?_ | refine zN ?_ | refine zO ?_ | ((first | refine zP hcl ?_ | refine zQ hcl ?_); simp only [seval, evw, fm, insA, encIns, dq11, *]) | ((first | refine zA ?_ ?_ | refine zC ?_ ?_ | refine zE ?_ ?_) <;> (intro hc; try simp only [seval, nf] at hc)) | refine zR ?_ | refine zS rfl ?_)
    refine ACalls.pure hp.of ?_
    repeat' (first | simp only [seval, evo, beq_self_eq_true, insA, encIns, dq11, *] | simp (disch := omega) only [if_pos, if_neg] | refine zG ?_ | refine zH ?_ | refine zI rfl ?_ | refine zJ rfl ?_ | refine zL ?_ | refine zM ?_ | refine zN ?_ | refine zO ?_ | ((first | refine zP hcl ?_ | refine zQ hcl ?_); simp only [seval, evw, fm, insA, encIns, dq11, *]) | ((first | refine zA ?_ ?_ | refine zC ?_ ?_ | refine zE ?_ ?_) <;> (intro hc; try simp only [seval, nf] at hc)) | refine zR ?_ | refine zS rfl ?_)
    refine RetOk.upd (.int .i64 (if r.isSome = true then 0 else 2)) (g4.of _) (g3.of { x with to := r.getD 0 }) ?_ ⟨rfl, rfl⟩
    simp only [seval, evw, fm, insA, encIns, dq11, *]
  have n84 : ¬ ((c.toNat : Int) = 84) := fun e => h84 (UInt8.toNat_inj.1 (by have : (84 : UInt8).toNat = 84 := rfl; omega))
  have hp := loc_Parse_ok w (by omega)
  have hf : fillV c w = locOf w := by unfold fillV; rw [if_neg (by rintro (h | h); exact h78 h; exact h84 h)]
  rw [hf]
  unfold locP at hp
  generalize locOf w = r at *
  have hset := encIns_set (x := x) (v := r.getD 0) h78 h84
  have hof : offOf (c.toNat : Int) + 1 ≤ 6 := by unfold offOf; split; omega; split <;> omega
  have hcl0 := vec_clean (m := H.length) (sz := 6) (xs := [encIns (setField x c (r.getD 0))]) (by simp [encIns, cleanAll, AV.clean])
  generalize encIns (setField x c (r.getD 0)) = E at *
  replace hp := Hold.mk hp
  replace g3 := Hold.mk g3
  replace g4 := Hold.mk g4
  replace hcl0 := Hold.mk hcl0
  rw [show encIns x = [.int .i64 x.op, .int .i64 x.d, .int .i64 x.a, .int .i64 x.b, .int .i64 x.n, .int .i64 x.to] from rfl] at *
  simp only [List.drop_succ_cons] at hset
  repeat' (first | simp only [seval, evo, beq_self_eq_true, insA, encIns, dq11, *] | simp (disch := omega) only [if_pos, if_neg] | refine zG ?_ | refine zH ?_ | refine zI rfl ?_ | refine zJ rfl ?_ | refine zL ?_ | refine zM ?_ | refine zN ?_ | refine zO ?_ | ((first | refine zP hcl ?_ | refine zQ hcl ?_); simp only [seval, evw, fm, insA, encIns, dq11, *]) | ((first | refine zA ?_ ?_ | refine zC ?_ ?_ | refine zE ?_ ?_) <;> (intro hc; try simp only [seval, nf] at hc)) | refine zR ?_ | refine zS rfl ?_)
  refine ACalls.pure hp.of ?_
  repeat' (first | simp only [seval, evo, beq_self_eq_true, insA, encIns, dq11, *] | simp (disch := omega) only [if_pos, if_neg] | refine zG ?_ | refine zH ?_ | refine zI rfl ?_ | refine zJ rfl ?_ | refine zL ?_ | refine zM ?_ | refine zN ?_ | refine zO ?_ | ((first | refine zP hcl ?_ | refine zQ hcl ?_); simp only [seval, evw, fm, insA, encIns, dq11, *]) | ((first | refine zA ?_ ?_ | refine zC ?_ ?_ | refine zE ?_ ?_) <;> (intro hc; try simp only [seval, nf] at hc)) | refine zR ?_ | refine zS rfl ?_)
  refine (ins_field_ok (c.toNat : Int) (by rw [List.length_append]; omega)).mono ?_
  rintro r' H' ⟨rfl, rfl⟩
  repeat' (first | simp only [seval, evo, beq_self_eq_true, insA, encIns, dq11, *] | simp (disch := omega) only [if_pos, if_neg] | refine zG ?_ | refine zH ?_ | refine zI rfl ?_ | refine zJ rfl ?_ | refine zL ?_ | refine zM ?_ | refine zN ?_ | refine zO ?_ | ((first | refine zP hcl ?_ | refine zQ hcl ?_); simp only [seval, evw, fm, insA, encIns, dq11, *]) | ((first | refine zA ?_ ?_ | refine zC ?_ ?_ | refine zE ?_ ?_) <;> (intro hc; try simp only [seval, nf] at hc)) | refine zR ?_ | refine zS rfl ?_)
  refine RetOk.upd (.int .i64 (if r.isSome = true then 0 else 2)) (g4.of _) (by rw [List.length_set]; exact hcl.set hcl0.of) ?_ ⟨rfl, rfl⟩
  simp only [seval, evw, fm, insA, encIns, dq11, *]
def matchOp (w : List (List UInt8)) (i : Nat) : Bool := decide (wordL ((i + 1 : Nat) : Int) = w.headD []) && decide ((fieldL ((i + 1 : Nat) : Int)).length + 1 = w.length)
def fillAll : Ins → List UInt8 → List (List UInt8) → Option Ins
  | x, [], _ => some x
  | x, c :: fs, w :: ws => match fillV c w with
    | some v => fillAll (setField x c v) fs ws
    | none => none
  | _, _ :: _, [] => none
def parseAt (w : List (List UInt8)) (i : Nat) : Option Ins := match fillAll { noIns with op := ((i + 1 : Nat) : Int) } (fieldL ((i + 1 : Nat) : Int)) w.tail with
  | some x => if chk x 200 = 0 then some x else none
  | none => none
def parseW (w : List (List UInt8)) : Option Ins := match (List.range 18).find? (matchOp w) with
  | some i => parseAt w i
  | none => none
def parseIns (s : List UInt8) : Option Ins := parseW (splitSp s)
def insR (r : Option Ins) : AV := match r with
  | some x => .tup [insA x, .int .i64 0]
  | none => .tup [insA noIns, .int .i64 2]
theorem find_range {f : Nat → Bool} : ∀ {n i : Nat}, i < n → f i = true → (∀ j, j < i → f j = false) → (List.range n).find? f = some i := by
  intro n i hi hf hj
  rw [List.find?_range_eq_some]
  exact ⟨hf, by simpa using hi, fun j h => by simp [hj j h]⟩
theorem find_range_none {f : Nat → Bool} {n : Nat} (h : ∀ j, j < n → f j = false) : (List.range n).find? f = none := by
  rw [List.find?_eq_none]
  intro j hj
  simp at hj
  simp [h j hj]
theorem setField_op (x : Ins) (c : UInt8) (v : Int) : (setField x c v).op = x.op := by
  unfold setField
  split; rfl
  split; rfl
  split; rfl
  split <;> rfl
theorem splitSp_word : ∀ (l : List UInt8) (w : List UInt8), w ∈ splitSp l → w.length ≤ l.length
  | [], w, h => by simp [splitSp] at h; simp [h]
  | c :: r, w, h => by
    rw [splitSp] at h
    split at h
    · rcases List.mem_cons.1 h with rfl | h
      · simp
      · have := splitSp_word r w h; simp; omega
    · cases hr : splitSp r with
      | nil => exact absurd hr (splitSp_ne r)
      | cons v vs =>
        rw [hr] at h
        rcases List.mem_cons.1 h with rfl | h
        · have := splitSp_word r v (by rw [hr]; simp); simp; omega
        · have := splitSp_word r w (by rw [hr]; simp [h]); simp; omega
theorem getD_map {W : List (List UInt8)} {j : Nat} (h : j < W.length) : (W.map encS).getD j [] = [.str (bs (W.getD j []))] := by
  simp [List.getD, h, encS]
set_option linter.defProp false in
def dq12 := And.intro @encB_def (And.intro @encS_def (And.intro @sb (And.intro @ins_dec (@ins_eta))))
set_option maxHeartbeats 2000000 in
theorem ins_Parse_ok (s : List UInt8) (hs : s.length ≤ 1000000) : Pure Tryd.prog 33 [.str (bs s)] (insR (parseIns s)) := by
  intro H
  refine ACalls.go ins_Parse.low (by simp) fun hcl => ?_
  have hww := ins_words_ok s hs
  (refine zG ?_; refine zH ?_; repeat' (first | simp only [seval, evo, beq_self_eq_true, insA, encIns, noIns, dq12, *] | simp (disch := omega) only [if_pos, if_neg]))
  refine R.seq (LCB.text ?_)
  repeat' (first | simp only [seval, evo, beq_self_eq_true, insA, encIns, noIns, dq12, *] | simp (disch := omega) only [if_pos, if_neg])
  refine ACalls.pure hww ?_
  clear hww
  have hW0 := splitSp_ne s
  have hWl := splitSp_len s
  have hWs : ∀ w ∈ splitSp s, w.length ≤ 1000000 := fun w hw => by have := splitSp_word s w hw; omega
  have hsp : parseIns s = parseW (splitSp s) := rfl
  rw [hsp]
  generalize splitSp s = W at *
  have hW1 : 0 < W.length := by
    cases W with
    | nil => exact absurd rfl hW0
    | cons a b => simp
  obtain ⟨row, htb, hl36, htk, hcr, hrow⟩ := shape_tbl
  replace hW0 := Hold.mk hW0
  replace hWs := Hold.mk hWs
  replace hrow := Hold.mk hrow
  replace hsp := Hold.mk hsp
  repeat' (first | simp only [seval, evo, beq_self_eq_true, insA, encIns, noIns, dq12, *] | simp (disch := omega) only [if_pos, if_neg] | refine zG ?_ | refine zH ?_ | refine zI rfl ?_ | refine zJ rfl ?_ | refine zL ?_ | refine zM ?_ | refine zN ?_ | refine zO ?_ | ((first | refine zP hcl ?_ | refine zQ hcl ?_); simp only [seval, evw, fm, insA, encIns, noIns, dq12, *]) | ((first | refine zA ?_ ?_ | refine zC ?_ ?_ | refine zE ?_ ?_) <;> (intro hc; try simp only [seval, nf] at hc)) | refine zR ?_ | refine zS rfl ?_)
  clear htb
  refine R.loop (S := Nat) ⟨fun i => [(2, .ptr H.length 1 0 0), (4, .list (W.map encS)), (13, .agg row), (14, .int .i64 (i : Int))], fun i => H ++ [.vec 6 [encIns noIns]], fun i => i ≤ 18 ∧ ∀ j, j < i → matchOp W j = false, fun i => 18 - i⟩ 0 ⟨Nat.zero_le _, fun j hj => by omega⟩ (Weak.at hcl ?_) ?_
  · simp only [seval, evw, fm, insA, encIns, noIns, dq12, *]
  rintro i ⟨hi, hj⟩
  simp only at hi hj ⊢
  replace hj := Hold.mk hj
  by_cases hlt : ¬ i < 18
  · have : i = 18 := by omega
    subst this
    have : insR (parseW W) = .tup [insA noIns, .int .i64 2] := by unfold parseW; rw [find_range_none hj.of]; rfl
    repeat' (first | simp only [seval, evo, beq_self_eq_true, insA, encIns, noIns, dq12, *] | simp (disch := omega) only [if_pos, if_neg] | refine zG ?_ | refine zH ?_ | refine zI rfl ?_ | refine zJ rfl ?_ | refine zL ?_ | refine zM ?_ | refine zN ?_ | refine zO ?_ | ((first | refine zP hcl ?_ | refine zQ hcl ?_); simp only [seval, evw, fm, insA, encIns, noIns, dq12, *]) | ((first | refine zA ?_ ?_ | refine zC ?_ ?_ | refine zE ?_ ?_) <;> (intro hc; try simp only [seval, nf] at hc)) | refine zR ?_ | refine zS rfl ?_)
  replace hlt : i < 18 := by omega
  have e1 : (i : Int) < 18 := by omega
  have e2 : IntKind.i64.wrap ((i : Int) + 1) = ((i + 1 : Nat) : Int) := by rw [IntKind.wrap_i64]; omega
  have e2' : IntKind.i64.wrap (1 + (i : Int)) = ((i + 1 : Nat) : Int) := by rw [IntKind.wrap_i64]; omega
  have hr := hrow.of i hlt
  have hg0 := getD_map hW1
  have hm : Hold (matchOp W i = (decide (wordL ((i + 1 : Nat) : Int) = W.getD 0 []) && decide ((fieldL ((i + 1 : Nat) : Int)).length + 1 = W.length))) := ⟨by unfold matchOp; cases W <;> rfl⟩
  have hpa : Hold (parseAt W i = match fillAll { noIns with op := ((i + 1 : Nat) : Int) } (fieldL ((i + 1 : Nat) : Int)) W.tail with | some x => if chk x 200 = 0 then some x else none | none => none) := ⟨rfl⟩
  obtain ⟨_, hF3, hFa⟩ := shape_short ((i + 1 : Nat) : Int)
  replace hFa := Hold.mk hFa
  have e5 : IntKind.i64.wrap ((W.length : Int) - 1) = ((W.length - 1 : Nat) : Int) := by rw [IntKind.wrap_i64]; omega
  generalize wordL ((i + 1 : Nat) : Int) = wd at *
  generalize fieldL ((i + 1 : Nat) : Int) = F at *
  have e6 : i * 2 + 2 ≤ 36 := by omega
  have e7 : (i : Int) < ((18 : Nat) : Int) := by omega
  cases hmt : matchOp W i with
  | false =>
    have hjn : ∀ j, j < i + 1 → matchOp W j = false := fun j hj1 => by
      rcases Nat.lt_or_ge j i with h | h
      · exact hj.of j h
      · have : j = i := by omega
        subst this; exact hmt
    have hdw := hm.of
    rw [hmt] at hdw
    replace hjn := Hold.mk hjn
    replace hmt := Hold.mk hmt
    by_cases hwd : wd = W.getD 0 []
    · rw [decide_eq_true hwd, Bool.true_and] at hdw
      have hne : ¬ ((F.length : Nat) : Int) = ((W.length - 1 : Nat) : Int) := fun e => by
        have := of_decide_eq_false hdw.symm
        omega
      replace hdw := Hold.mk hdw
      repeat' (first | simp only [seval, evo, beq_self_eq_true, insA, encIns, noIns, dq12, *] | simp (disch := omega) only [if_pos, if_neg] | refine zG ?_ | refine zH ?_ | refine zI rfl ?_ | refine zJ rfl ?_ | refine zL ?_ | refine zM ?_ | refine zN ?_ | refine zO ?_ | ((first | refine zP hcl ?_ | refine zQ hcl ?_); simp only [seval, evw, fm, insA, encIns, noIns, dq12, *]) | ((first | refine zA ?_ ?_ | refine zC ?_ ?_ | refine zE ?_ ?_) <;> (intro hc; try simp only [seval, nf] at hc)) | refine zR ?_ | refine zS rfl ?_)
      refine ⟨i + 1, ⟨hlt, hjn.of⟩, by simp only; omega, Weak.at hcl ?_⟩
      simp only [seval, evw, fm, insA, encIns, noIns, dq12, *]
    · replace hdw := Hold.mk hdw
      repeat' (first | simp only [seval, evo, beq_self_eq_true, insA, encIns, noIns, dq12, *] | simp (disch := omega) only [if_pos, if_neg] | refine zG ?_ | refine zH ?_ | refine zI rfl ?_ | refine zJ rfl ?_ | refine zL ?_ | refine zM ?_ | refine zN ?_ | refine zO ?_ | ((first | refine zP hcl ?_ | refine zQ hcl ?_); simp only [seval, evw, fm, insA, encIns, noIns, dq12, *]) | ((first | refine zA ?_ ?_ | refine zC ?_ ?_ | refine zE ?_ ?_) <;> (intro hc; try simp only [seval, nf] at hc)) | refine zR ?_ | refine zS rfl ?_)
      refine ⟨i + 1, ⟨hlt, hjn.of⟩, by simp only; omega, Weak.at hcl ?_⟩
      simp only [seval, evw, fm, insA, encIns, noIns, dq12, *]
  | true =>
    have hdw := hm.of
    rw [hmt] at hdw
    replace hdw := hdw.symm
    simp only [Bool.and_eq_true, decide_eq_true_eq] at hdw
    obtain ⟨hwd, hFl⟩ := hdw
    subst hwd
    have hres : Hold (parseW W = parseAt W i) := ⟨by unfold parseW; rw [find_range hlt hmt hj.of]⟩
    replace hmt := Hold.mk hmt
    have heq : ((F.length : Nat) : Int) = ((W.length - 1 : Nat) : Int) := by omega
    have hF1 : F.length = W.length - 1 := by omega
    replace hFl := Hold.mk hFl
    clear heq
    repeat' (first | simp only [seval, evo, beq_self_eq_true, insA, encIns, noIns, dq12, *] | simp (disch := omega) only [if_pos, if_neg] | refine zG ?_ | refine zH ?_ | refine zI rfl ?_ | refine zJ rfl ?_ | refine zL ?_ | refine zM ?_ | refine zN ?_ | refine zO ?_ | ((first | refine zP hcl ?_ | refine zQ hcl ?_); simp only [seval, evw, fm, insA, encIns, noIns, dq12, *]) | ((first | refine zA ?_ ?_ | refine zC ?_ ?_ | refine zE ?_ ?_) <;> (intro hc; try simp only [seval, nf] at hc)) | refine zR ?_ | refine zS rfl ?_)
    refine R.loop (S := Nat × Ins) ⟨fun y => [(2, .ptr H.length 1 0 0), (4, .list (W.map encS)), (7, .ptr (H.length + 2) 1 0 0), (38, .iter (H.length + 3))], fun y => H ++ [.vec 6 [encIns noIns], .vec 2 [[.str (bs (W.getD 0 [])), .str (bs F)]], .vec 6 [encIns y.2], .iter (bs F) y.1],
      fun y => y.1 ≤ F.length ∧ y.2.op = ((i + 1 : Nat) : Int) ∧ fillAll y.2 (F.drop y.1) (W.drop (y.1 + 1)) = fillAll { noIns with op := ((i + 1 : Nat) : Int) } F W.tail, fun y => F.length - y.1⟩ (0, { noIns with op := ((i + 1 : Nat) : Int) }) ⟨Nat.zero_le _, rfl, by simp⟩ (Weak.at hcl ?_) ?_
    · simp only [seval, evw, fm, insA, encIns, noIns, dq12, *]
    rintro ⟨p, x⟩ ⟨hp, hxo, hq⟩
    simp only at hp hxo hq ⊢
    replace hq := Hold.mk hq
    replace hxo := Hold.mk hxo
    replace hF1 := Hold.mk hF1
    by_cases hlt2 : p < F.length
    · have hmem : F.getD p 0 ∈ F := by simp [List.getD, hlt2]
      have hd := dec_near (l := F) (p := p) (hFa.of _ hmem)
      have hdr := drop_at hlt2
      have hwp : p + 1 < W.length := by have := hF1.of; omega
      have hgp := getD_map hwp
      have hdw2 : W.drop (p + 1) = W.getD (p + 1) [] :: W.drop (p + 2) := by
        rw [List.drop_eq_getElem_cons hwp]
        simp [List.getD, hwp]
      have hq2 := hq.of
      rw [hdr, hdw2] at hq2
      replace hq2 := Hold.mk hq2
      have e8 : IntKind.i64.wrap ((p : Int) + 1) = ((p + 1 : Nat) : Int) := by rw [IntKind.wrap_i64]; omega
      have hwm : W.getD (p + 1) [] ∈ W := by simp [List.getD, hwp]
      have hwlen := hWs.of _ hwm
      clear hdr hdw2 hmem hwm hg0
      generalize F.getD p 0 = c at *
      generalize W.getD (p + 1) [] = wnx at *
      repeat' (first | simp only [seval, evo, beq_self_eq_true, insA, encIns, noIns, dq12, *] | simp (disch := omega) only [if_pos, if_neg] | refine zG ?_ | refine zH ?_ | refine zI rfl ?_ | refine zJ rfl ?_ | refine zL ?_ | refine zM ?_ | refine zN ?_ | refine zO ?_ | ((first | refine zP hcl ?_ | refine zQ hcl ?_); simp only [seval, evw, fm, insA, encIns, noIns, dq12, *]) | ((first | refine zA ?_ ?_ | refine zC ?_ ?_ | refine zE ?_ ?_) <;> (intro hc; try simp only [seval, nf] at hc)) | refine zR ?_ | refine zS rfl ?_)
      refine (ins_fill_ok (x := x) c wnx hwlen (by simp) (by simp only [seval, evo, beq_self_eq_true, insA, encIns, noIns, dq12, *])).mono ?_
      rintro r' H' ⟨rfl, rfl⟩
      cases hv : fillV c wnx with
      | some v =>
        have hs1 : (some v).isSome = true := rfl
        have hs2 : (some v).getD 0 = v := rfl
        have hq3 := hq2.of
        rw [fillAll, hv] at hq3
        replace hq3 := Hold.mk hq3
        repeat' (first | simp only [seval, evo, beq_self_eq_true, insA, encIns, noIns, dq12, *] | simp (disch := omega) only [if_pos, if_neg] | refine zG ?_ | refine zH ?_ | refine zI rfl ?_ | refine zJ rfl ?_ | refine zL ?_ | refine zM ?_ | refine zN ?_ | refine zO ?_ | ((first | refine zP hcl ?_ | refine zQ hcl ?_); simp only [seval, evw, fm, insA, encIns, noIns, dq12, *]) | ((first | refine zA ?_ ?_ | refine zC ?_ ?_ | refine zE ?_ ?_) <;> (intro hc; try simp only [seval, nf] at hc)) | refine zR ?_ | refine zS rfl ?_)
        refine ⟨(p + 1, setField x c v), ⟨hlt2, by simp only; rw [setField_op]; exact hxo.of, hq3.of⟩, by simp only; omega, Weak.at hcl ?_⟩
        simp only [seval, evw, fm, insA, encIns, noIns, dq12, *]
      | none =>
        have hs1 : (none : Option Int).isSome = false := rfl
        have hs2 : (none : Option Int).getD 0 = 0 := rfl
        have hq3 := hq2.of
        rw [fillAll, hv] at hq3
        have hfin : insR (parseW W) = .tup [insA noIns, .int .i64 2] := by
          rw [hres.of, hpa.of, ← hq3]; rfl
        clear hq3
        repeat' (first | simp only [seval, evo, beq_self_eq_true, insA, encIns, noIns, dq12, *] | simp (disch := omega) only [if_pos, if_neg] | refine zG ?_ | refine zH ?_ | refine zI rfl ?_ | refine zJ rfl ?_ | refine zL ?_ | refine zM ?_ | refine zN ?_ | refine zO ?_ | ((first | refine zP hcl ?_ | refine zQ hcl ?_); simp only [seval, evw, fm, insA, encIns, noIns, dq12, *]) | ((first | refine zA ?_ ?_ | refine zC ?_ ?_ | refine zE ?_ ?_) <;> (intro hc; try simp only [seval, nf] at hc)) | refine zR ?_ | refine zS rfl ?_)
    · have hp' : p = F.length := by omega
      subst hp'
      have hq2 := hq.of
      rw [List.drop_length, fillAll] at hq2
      have hx : Hold (parseW W = if chk x 200 = 0 then some x else none) := ⟨by rw [hres.of, hpa.of, ← hq2]⟩
      clear hq2
      have hck := ins_Check_ok x 200
      rw [insA_eq] at hck
      replace hck := Hold.mk hck
      repeat' (first | simp only [seval, evo, beq_self_eq_true, insA, encIns, noIns, dq12, *] | simp (disch := omega) only [if_pos, if_neg] | refine zG ?_ | refine zH ?_ | refine zI rfl ?_ | refine zJ rfl ?_ | refine zL ?_ | refine zM ?_ | refine zN ?_ | refine zO ?_ | ((first | refine zP hcl ?_ | refine zQ hcl ?_); simp only [seval, evw, fm, insA, encIns, noIns, dq12, *]) | ((first | refine zA ?_ ?_ | refine zC ?_ ?_ | refine zE ?_ ?_) <;> (intro hc; try simp only [seval, nf] at hc)) | refine zR ?_ | refine zS rfl ?_)
      refine ACalls.pure hck.of ?_
      by_cases hk : chk x 200 = 0
      · have hfin : insR (parseW W) = .tup [insA x, .int .i64 0] := by rw [hx.of, if_pos hk]; rfl
        repeat' (first | simp only [seval, evo, beq_self_eq_true, insA, encIns, noIns, dq12, *] | simp (disch := omega) only [if_pos, if_neg] | refine zG ?_ | refine zH ?_ | refine zI rfl ?_ | refine zJ rfl ?_ | refine zL ?_ | refine zM ?_ | refine zN ?_ | refine zO ?_ | ((first | refine zP hcl ?_ | refine zQ hcl ?_); simp only [seval, evw, fm, insA, encIns, noIns, dq12, *]) | ((first | refine zA ?_ ?_ | refine zC ?_ ?_ | refine zE ?_ ?_) <;> (intro hc; try simp only [seval, nf] at hc)) | refine zR ?_ | refine zS rfl ?_)
      · have hfin : insR (parseW W) = .tup [insA noIns, .int .i64 2] := by rw [hx.of, if_neg hk]; rfl
        repeat' (first | simp only [seval, evo, beq_self_eq_true, insA, encIns, noIns, dq12, *] | simp (disch := omega) only [if_pos, if_neg] | refine zG ?_ | refine zH ?_ | refine zI rfl ?_ | refine zJ rfl ?_ | refine zL ?_ | refine zM ?_ | refine zN ?_ | refine zO ?_ | ((first | refine zP hcl ?_ | refine zQ hcl ?_); simp only [seval, evw, fm, insA, encIns, noIns, dq12, *]) | ((first | refine zA ?_ ?_ | refine zC ?_ ?_ | refine zE ?_ ?_) <;> (intro hc; try simp only [seval, nf] at hc)) | refine zR ?_ | refine zS rfl ?_)
def encN (n : Nat) : List AV := [.int .i64 (n : Int)]
theorem encN_def {n : Nat} : encN n = [.int .i64 (n : Int)] := rfl
def insOr (r : Option Ins) : Ins := r.getD noIns
theorem insR_eq (r : Option Ins) : insR r = .tup [insA (insOr r), .int .i64 (if r.isSome then 0 else 2)] := by cases r <;> rfl
theorem RetOk.upd0 {B : Nat} {t : Tm} {G : List AObj} {rs : List LRes} {QF : AV → List AObj → Prop} (r : AV) (hB : B ≤ G.length) (hcl : Clean G.length G) (h : match resE ⟨t, G⟩ rs with | some l => View G G.length (resV l) r | none => False) (hq : QF r G) : RetOk B rs QF ⟨t, G⟩ := by
  have := RetOk.upd (L := []) (t := t) (rs := rs) r hB hcl (by rwa [List.append_nil]) hq
  rwa [List.append_nil] at this
def lineH (h : Nat) (s : List UInt8) (fr : Nat) (rows : List Ins) (bg : List Nat) (p : Nat) : List AObj :=
  [.vec 1 [[.str (bs s)]], .vec 1 [[.sl 6 (h + 5) rows.length 0 rows.length]], .vec 1 [[.sl 1 (h + 6) bg.length 0 bg.length]], .vec 1 [[.int .i64 (fr : Int)]], .iter (bs s) p, .vec 6 (rows.map encIns), .vec 1 (bg.map encN)]
theorem lineH_eq {h : Nat} {s : List UInt8} {fr : Nat} {rows : List Ins} {bg : List Nat} {p : Nat} : lineH h s fr rows bg p = [.vec 1 [[.str (bs s)]], .vec 1 [[.sl 6 (h + 5) rows.length 0 rows.length]], .vec 1 [[.sl 1 (h + 6) bg.length 0 bg.length]], .vec 1 [[.int .i64 (fr : Int)]], .iter (bs s) p, .vec 6 (rows.map encIns), .vec 1 (bg.map encN)] := rfl
set_option linter.defProp false in
def dq13 := And.intro @encB_def (And.intro @encN_def (And.intro @sb (And.intro @ins_dec (And.intro @ins_eta (And.intro @lineH_eq (And.intro @List.length_append.{0} (@CallA_fn2)))))))
set_option maxHeartbeats 4000000 in
theorem asm_line_ok {G : List AObj} (hG : Clean G.length G) (s : List UInt8) (fr to : Nat) (rows : List Ins) (bg : List Nat) (p : Nat) (h1 : fr ≤ to) (h2 : to ≤ s.length) (hs : s.length ≤ 1000000) (hr : rows.length ≤ 1000000) (hb : bg.length ≤ 1000000) :
    ACalls Tryd.prog 32 [.int .i64 (to : Int), .ptr G.length 1 0 0, .ptr (G.length + 3) 1 0 0, .ptr (G.length + 1) 1 0 0, .ptr (G.length + 2) 1 0 0] (G ++ lineH G.length s fr rows bg p)
      fun r H' => r = .bool (parseIns ((s.take to).drop fr)).isSome ∧ H' = G ++ lineH G.length s fr (rows ++ [insOr (parseIns ((s.take to).drop fr))]) (bg ++ [fr]) p := by
  refine ACalls.go asm_Parse_1.low (by simp) fun hcl => ?_
  have hp := ins_Parse_ok ((s.take to).drop fr) (by simp; omega)
  rw [insR_eq] at hp
  generalize parseIns ((s.take to).drop fr) = r at *
  have e1 : (fr : Int) ≤ (to : Int) := by omega
  have e2 : (to : Int) ≤ (s.length : Int) := by omega
  generalize insOr r = x at *
  replace hp := Hold.mk hp
  (refine zG ?_; refine zH ?_; repeat' (first | simp only [seval, evo, beq_self_eq_true, insA, encIns, dq13, *] | simp (disch := omega) only [if_pos, if_neg]))
  refine R.cut [(2, .ptr (G.length + 3) 1 0 0), (3, .ptr (G.length + 1) 1 0 0), (4, .ptr (G.length + 2) 1 0 0), (7, .ptr (G.length + 7) 1 0 0), (8, .int .i64 (if r.isSome = true then 0 else 2))] (G ++ (lineH G.length s fr rows bg p ++ [.vec 6 [encIns x]])) ?_ ?_
  · repeat' (first | simp only [seval, evo, beq_self_eq_true, insA, encIns, dq13, *] | simp (disch := omega) only [if_pos, if_neg] | refine zG ?_ | refine zH ?_ | refine zI rfl ?_ | refine zJ rfl ?_ | refine zL ?_ | refine zM ?_ | refine zN ?_ | refine zO ?_ | ((first | refine zP hcl ?_ | refine zQ hcl ?_); simp only [seval, evw, fm, insA, encIns, dq13, *]) | ((first | refine zA ?_ ?_ | refine zC ?_ ?_ | refine zE ?_ ?_) <;> (intro hc; try simp only [seval, nf] at hc)) | refine zR ?_ | refine zS rfl ?_)
    first | refine zT (hp.of) ?_ | refine zV (hp.of) rfl ?_ | refine zU (hp.of) ?_
    repeat' (first | simp only [seval, evo, beq_self_eq_true, insA, encIns, dq13, *] | simp (disch := omega) only [if_pos, if_neg] | refine zG ?_ | refine zH ?_ | refine zI rfl ?_ | refine zJ rfl ?_ | refine zL ?_ | refine zM ?_ | refine zN ?_ | refine zO ?_ | ((first | refine zP hcl ?_ | refine zQ hcl ?_); simp only [seval, evw, fm, insA, encIns, dq13, *]) | ((first | refine zA ?_ ?_ | refine zC ?_ ?_ | refine zE ?_ ?_) <;> (intro hc; try simp only [seval, nf] at hc)) | refine zR ?_ | refine zS rfl ?_)
    refine Weak.at hG ?_
    simp only [seval, evw, fm, insA, encIns, dq13, *]
  have b1 : (rows.length + 1) * 48 ≤ 140737488355328 := by omega
  have b2 : rows.length ≤ 9223372036854775806 := by omega
  have b3 : (bg.length + 1) * 8 ≤ 140737488355328 := by omega
  have b4 : bg.length ≤ 9223372036854775806 := by omega
  refine R.cut [(8, .int .i64 (if r.isSome = true then 0 else 2))] (G ++ lineH G.length s fr (rows ++ [x]) (bg ++ [fr]) p) ?_ ?_
  · refine LCB.any ?_
    simp (maxSteps := 100000000) only [wpP, wpPs, wpT_none, pureStep, seval, ev1, ev2, ev3, ev4, encB_def, encN_def, sb, insA, encIns, ins_dec, ins_eta, lineH_eq, List.length_append, CallA_fn2, *]
    repeat' (first | constructor | (refine zQ hG ?_; simp only [seval, evw, fm, insA, encIns, dq13, *]))
  repeat' (first | simp only [seval, evo, beq_self_eq_true, insA, encIns, dq13, *] | simp (disch := omega) only [if_pos, if_neg] | refine zG ?_ | refine zH ?_ | refine zI rfl ?_ | refine zJ rfl ?_ | refine zL ?_ | refine zM ?_ | refine zN ?_ | refine zO ?_ | ((first | refine zP hcl ?_ | refine zQ hcl ?_); simp only [seval, evw, fm, insA, encIns, dq13, *]) | ((first | refine zA ?_ ?_ | refine zC ?_ ?_ | refine zE ?_ ?_) <;> (intro hc; try simp only [seval, nf] at hc)) | refine zR ?_ | refine zS rfl ?_)
  refine RetOk.upd0 (.bool r.isSome) ?_ ?_ ?_ ?_
  · simp only [seval, evw, fm, insA, encIns, dq13, *]
  · rw [List.length_append]
    refine (hG.le (by omega)).app ?_
    simp only [seval, evw, fm, insA, encIns, dq13, *]
  · cases r <;> (simp only [seval, evw, fm, insA, encIns, dq13, *]; rfl)
  · simp only [seval, evw, fm, insA, encIns, dq13, *]
def scan : Nat → List UInt8 → List UInt8 → List Ins → List Nat → Except Nat (List Ins × List Nat)
  | fr, cur, [], f, bg => if cur.length = 0 then .ok (f, bg) else .error fr
  | fr, cur, c :: r, f, bg => if c = 10 then match parseIns cur with
      | some x => scan (fr + cur.length + 1) [] r (f ++ [x]) (bg ++ [fr])
      | none => .error fr
    else scan fr (cur ++ [c]) r f bg
def fnParse (s : List UInt8) : List Ins × Int × Int := if 20000 < s.length then ([], 0, 3) else match scan 0 [] s [] [] with
  | .error fr => ([], (fr : Int), 2)
  | .ok (f, bg) => if (fnChk f).2 = 0 then (f, 0, 0) else ([], (if (fnChk f).1.toNat < bg.length then ((bg.getD (fnChk f).1.toNat 0 : Nat) : Int) else (fnChk f).1), (fnChk f).2)
def fnR (q : List Ins × Int × Int) : AV := .tup [encFn q.1, .int .i64 q.2.1, .int .i64 q.2.2]
theorem scan_skip {s : List UInt8} {fr : Nat} {f : List Ins} {bg : List Nat} : ∀ (w p : Nat), fr ≤ p → p + w ≤ s.length → (∀ q, p ≤ q → q < p + w → s.getD q 0 ≠ 10) → scan fr ((s.take p).drop fr) (s.drop p) f bg = scan fr ((s.take (p + w)).drop fr) (s.drop (p + w)) f bg
  | 0, p, _, _, _ => rfl
  | w + 1, p, ha, hp, hq => by
    rw [drop_at (show p < s.length by omega), scan, if_neg (hq p (Nat.le_refl _) (by omega))]
    have e : (s.take p).drop fr ++ [s.getD p 0] = (s.take (p + 1)).drop fr := by
      rw [take_all (by omega), List.drop_append_of_le_length (by simp; omega)]
    rw [e, scan_skip w (p + 1) (by omega) (by omega) (fun q h1 h2 => hq q (by omega) (by omega)), Nat.add_right_comm, Nat.add_assoc]
theorem fnChk_at (f : List Ins) : ∃ k : Nat, (fnChk f).1 = (k : Int) ∧ k ≤ 200 := by
  by_cases h1 : 200 < f.length
  · exact ⟨0, by rw [fnChk_full h1]; rfl, by omega⟩
  · by_cases h2 : f.length = 0
    · exact ⟨0, by rw [fnChk_nil h2]; rfl, by omega⟩
    · cases hb : badAt (f.length : Int) 0 f with
      | some q =>
        obtain ⟨i, e⟩ := q
        have := (badAt_some _ _ _ _ hb).2.2
        exact ⟨i, by rw [fnChk_bad h1 h2 hb], by omega⟩
      | none =>
        rw [fnChk_good h1 h2 hb]
        split
        · exact ⟨0, rfl, by omega⟩
        · exact ⟨f.length - 1, rfl, by omega⟩
theorem getD_encN {l : List Nat} {j : Nat} (h : j < l.length) : (l.map encN).getD j [] = [.int .i64 ((l.getD j 0 : Nat) : Int)] := by
  simp [List.getD, h, encN]
set_option maxHeartbeats 4000000 in
theorem asm_Parse_ok (s : List UInt8) (hs : s.length ≤ maxLen) : Pure Tryd.prog 15 [.str (bs s)] (fnR (fnParse s)) := by
  intro H
  refine ACalls.go asm_Parse.low (by simp) fun hcl => ?_
  by_cases hbig : 20000 < s.length
  · have e1 : (20000 : Int) < (s.length : Int) := by omega
    have hr : fnR (fnParse s) = .tup [.list [], .int .i64 0, .int .i64 3] := by unfold fnParse; rw [if_pos hbig]; rfl
    repeat' (first | simp only [seval, evo, beq_self_eq_true, insA, encIns, dq13, *] | simp (disch := omega) only [if_pos, if_neg] | refine zG ?_ | refine zH ?_ | refine zI rfl ?_ | refine zJ rfl ?_ | refine zL ?_ | refine zM ?_ | refine zN ?_ | refine zO ?_ | ((first | refine zP hcl ?_ | refine zQ hcl ?_); simp only [seval, evw, fm, insA, encIns, dq13, *]) | ((first | refine zA ?_ ?_ | refine zC ?_ ?_ | refine zE ?_ ?_) <;> (intro hc; try simp only [seval, nf] at hc)) | refine zR ?_ | refine zS rfl ?_)
  have e1 : ¬ (20000 : Int) < (s.length : Int) := by omega
  have hR : Hold (fnParse s = match scan 0 [] s [] [] with
    | .error fr => ([], (fr : Int), 2)
    | .ok (f, bg) => if (fnChk f).2 = 0 then (f, 0, 0) else ([], (if (fnChk f).1.toNat < bg.length then ((bg.getD (fnChk f).1.toNat 0 : Nat) : Int) else (fnChk f).1), (fnChk f).2)) := ⟨by unfold fnParse; rw [if_neg hbig]⟩
  generalize fnParse s = PR at *
  generalize hsc : scan 0 [] s [] [] = SC at *
  replace hsc := Hold.mk hsc
  replace hbig := Hold.mk hbig
  repeat' (first | simp only [seval, evo, beq_self_eq_true, insA, encIns, dq13, *] | simp (disch := omega) only [if_pos, if_neg] | refine zG ?_ | refine zH ?_ | refine zI rfl ?_ | refine zJ rfl ?_ | refine zL ?_ | refine zM ?_ | refine zN ?_ | refine zO ?_ | ((first | refine zP hcl ?_ | refine zQ hcl ?_); simp only [seval, evw, fm, insA, encIns, dq13, *]) | ((first | refine zA ?_ ?_ | refine zC ?_ ?_ | refine zE ?_ ?_) <;> (intro hc; try simp only [seval, nf] at hc)) | refine zR ?_ | refine zS rfl ?_)
  refine R.loop (S := Nat × Nat × List Ins × List Nat) ⟨fun y => [(1, .ptr H.length 1 0 0), (5, .ptr (H.length + 1) 1 0 0), (6, .ptr (H.length + 2) 1 0 0), (7, .ptr (H.length + 3) 1 0 0), (8, .fn (.func 32) [] [.ptr H.length 1 0 0, .ptr (H.length + 3) 1 0 0, .ptr (H.length + 1) 1 0 0, .ptr (H.length + 2) 1 0 0]), (18, .iter (H.length + 4))], fun y => H ++ lineH H.length s y.2.1 y.2.2.1 y.2.2.2 y.1,
    fun y => y.1 ≤ s.length ∧ y.2.1 ≤ y.1 ∧ y.2.2.1.length ≤ y.1 ∧ y.2.2.2.length ≤ y.1 ∧ scan y.2.1 ((s.take y.1).drop y.2.1) (s.drop y.1) y.2.2.1 y.2.2.2 = SC, fun y => s.length - y.1⟩ (0, 0, [], []) ⟨Nat.zero_le _, Nat.zero_le _, Nat.zero_le _, Nat.zero_le _, by rw [← hsc.of]; simp⟩
    ((Weak.growCellAt 1 6 (by omega) rfl).trans ((Weak.growCellAt 2 1 (by omega) rfl).trans (Weak.at hcl ?_))) ?_
  · simp only [seval, evw, fm, insA, encIns, dq13, *]
  rintro ⟨p, fr, f, bg⟩ ⟨hp, hfr, hfl, hbl, hq⟩
  simp only at hp hfr hfl hbl hq ⊢
  have hs2 : s.length ≤ 20000 := by have := hbig.of; omega
  replace hq := Hold.mk hq
  by_cases hlt : p < s.length
  · obtain ⟨r, w, hd, h1, h2, h3⟩ := dec_step hlt
    have e2 : IntKind.i64.wrap ((p : Int) + 1) = ((p + 1 : Nat) : Int) := by rw [IntKind.wrap_i64]; omega
    replace h3 := Hold.mk h3
    by_cases h10 : r = 10
    · subst h10
      have h3 := (h3.of.resolve_right (by omega))
      obtain ⟨h4, rfl, _⟩ := h3
      have hc10 : s.getD p 0 = 10 := UInt8.toNat_inj.1 (by rw [← h4]; rfl)
      have hq2 := hq.of
      rw [drop_at hlt, scan, if_pos hc10] at hq2
      have hlen : fr + ((s.take p).drop fr).length + 1 = p + 1 := by simp; omega
      rw [hlen] at hq2
      clear hlen
      have e3 : (((10 : Nat) : Int)) = 10 := rfl
      have hline := Hold.mk (asm_line_ok hcl s fr p f bg (p + 1) hfr hp (by omega) (by omega) (by omega))
      replace h4 := Hold.mk h4
      generalize (s.take p).drop fr = cur at *
      cases hpi : parseIns cur with
      | some x =>
        rw [hpi] at hq2 hline
        simp only at hq2
        have hx1 : insOr (some x) = x := rfl
        have hx2 : (some x).isSome = true := rfl
        replace hq2 := Hold.mk hq2
        replace hpi := Hold.mk hpi
        repeat' (first | simp only [seval, evo, beq_self_eq_true, insA, encIns, dq13, *] | simp (disch := omega) only [if_pos, if_neg] | refine zG ?_ | refine zH ?_ | refine zI rfl ?_ | refine zJ rfl ?_ | refine zL ?_ | refine zM ?_ | refine zN ?_ | refine zO ?_ | ((first | refine zP hcl ?_ | refine zQ hcl ?_); simp only [seval, evw, fm, insA, encIns, dq13, *]) | ((first | refine zA ?_ ?_ | refine zC ?_ ?_ | refine zE ?_ ?_) <;> (intro hc; try simp only [seval, nf] at hc)) | refine zR ?_ | refine zS rfl ?_)
        simp only [lineH_eq] at hline
        refine hline.of.mono ?_
        rintro r' H' ⟨rfl, rfl⟩
        repeat' (first | simp only [seval, evo, beq_self_eq_true, insA, encIns, dq13, *] | simp (disch := omega) only [if_pos, if_neg] | refine zG ?_ | refine zH ?_ | refine zI rfl ?_ | refine zJ rfl ?_ | refine zL ?_ | refine zM ?_ | refine zN ?_ | refine zO ?_ | ((first | refine zP hcl ?_ | refine zQ hcl ?_); simp only [seval, evw, fm, insA, encIns, dq13, *]) | ((first | refine zA ?_ ?_ | refine zC ?_ ?_ | refine zE ?_ ?_) <;> (intro hc; try simp only [seval, nf] at hc)) | refine zR ?_ | refine zS rfl ?_)
        refine ⟨(p + 1, p + 1, f ++ [x], bg ++ [fr]), ⟨h2, Nat.le_refl _, by simp only [List.length_append, List.length_cons, List.length_nil]; omega, by simp only [List.length_append, List.length_cons, List.length_nil]; omega, ?_⟩, by simp only; omega, Weak.at hcl ?_⟩
        · simp only
          rw [← hq2.of]
          simp
        · simp only [seval, evw, fm, insA, encIns, dq13, *]
      | none =>
        rw [hpi] at hq2 hline
        have hx2 : (none : Option Ins).isSome = false := rfl
        have hres : fnR PR = .tup [.list [], .int .i64 (fr : Int), .int .i64 2] := by rw [hR.of, ← hq2]; rfl
        replace hq2 := Hold.mk hq2
        replace hpi := Hold.mk hpi
        repeat' (first | simp only [seval, evo, beq_self_eq_true, insA, encIns, dq13, *] | simp (disch := omega) only [if_pos, if_neg] | refine zG ?_ | refine zH ?_ | refine zI rfl ?_ | refine zJ rfl ?_ | refine zL ?_ | refine zM ?_ | refine zN ?_ | refine zO ?_ | ((first | refine zP hcl ?_ | refine zQ hcl ?_); simp only [seval, evw, fm, insA, encIns, dq13, *]) | ((first | refine zA ?_ ?_ | refine zC ?_ ?_ | refine zE ?_ ?_) <;> (intro hc; try simp only [seval, nf] at hc)) | refine zR ?_ | refine zS rfl ?_)
        simp only [lineH_eq] at hline
        refine hline.of.mono ?_
        rintro r' H' ⟨rfl, rfl⟩
        repeat' (first | simp only [seval, evo, beq_self_eq_true, insA, encIns, dq13, *] | simp (disch := omega) only [if_pos, if_neg] | refine zG ?_ | refine zH ?_ | refine zI rfl ?_ | refine zJ rfl ?_ | refine zL ?_ | refine zM ?_ | refine zN ?_ | refine zO ?_ | ((first | refine zP hcl ?_ | refine zQ hcl ?_); simp only [seval, evw, fm, insA, encIns, dq13, *]) | ((first | refine zA ?_ ?_ | refine zC ?_ ?_ | refine zE ?_ ?_) <;> (intro hc; try simp only [seval, nf] at hc)) | refine zR ?_ | refine zS rfl ?_)
    · have e3 : ¬ (r : Int) = 10 := by omega
      replace h10 := Hold.mk h10
      have hx := Hold.mk (scan_skip (s := s) (fr := fr) (f := f) (bg := bg) w p hfr h2 (fun q g1 g2 g3 => by
        rcases h3.of with ⟨h4, h5, _⟩ | ⟨h4, h5⟩
        · have : q = p := by omega
          subst this
          rw [g3] at h4
          exact h10.of h4
        · have := h5 q g1 g2
          rw [g3] at this
          exact absurd this (by decide)))
      repeat' (first | simp only [seval, evo, beq_self_eq_true, insA, encIns, dq13, *] | simp (disch := omega) only [if_pos, if_neg] | refine zG ?_ | refine zH ?_ | refine zI rfl ?_ | refine zJ rfl ?_ | refine zL ?_ | refine zM ?_ | refine zN ?_ | refine zO ?_ | ((first | refine zP hcl ?_ | refine zQ hcl ?_); simp only [seval, evw, fm, insA, encIns, dq13, *]) | ((first | refine zA ?_ ?_ | refine zC ?_ ?_ | refine zE ?_ ?_) <;> (intro hc; try simp only [seval, nf] at hc)) | refine zR ?_ | refine zS rfl ?_)
      refine ⟨(p + w, fr, f, bg), ⟨h2, by simp only; omega, by simp only; omega, by simp only; omega, ?_⟩, by simp only; omega, Weak.at hcl ?_⟩
      · simp only
        rw [← hq.of, hx.of]
      · simp only [seval, evw, fm, insA, encIns, dq13, *]
  · have hp' : p = s.length := by omega
    subst hp'
    refine LCB.pre (Weak.viewH (sl := [(1, .ptr H.length 1 0 0), (5, .ptr (H.length + 1) 1 0 0), (6, .ptr (H.length + 2) 1 0 0), (7, .ptr (H.length + 3) 1 0 0), (18, .iter (H.length + 4))])
      (L' := [.vec 1 [[.str (bs s)]], .vec 1 [[.list (f.map encIns)]], .vec 1 [[.list (bg.map encN)]], .vec 1 [[.int .i64 (fr : Int)]], .iter (bs s) s.length]) hcl (by simp) (by simp [lineH]) ?_ ?_) ?_
    · intro i o q g1 g2
      match i with
      | 0 => simp [lineH] at g1 g2; subst g1; subst g2; exact .same (by simp only [seval, evw, fm, insA, encIns, dq13, *])
      | 1 => simp [lineH] at g1 g2; subst g1; subst g2; exact .cell (by simp only [seval, evw, fm, insA, encIns, dq13, *])
      | 2 => simp [lineH] at g1 g2; subst g1; subst g2; exact .cell (by simp only [seval, evw, fm, insA, encIns, dq13, *])
      | 3 => simp [lineH] at g1 g2; subst g1; subst g2; exact .same (by simp only [seval, evw, fm, insA, encIns, dq13, *])
      | 4 => simp [lineH] at g1 g2; subst g1; subst g2; exact .same (by simp only [seval, evw, fm, insA, encIns, dq13, *])
      | n + 5 => simp at g2
    · simp only [seval, evw, fm, insA, encIns, dq13, *]
    have hq2 := hq.of
    rw [List.drop_length, List.take_length, scan] at hq2
    by_cases hend : fr < s.length
    · rw [if_neg (by simp; omega)] at hq2
      have e5 : (fr : Int) < (s.length : Int) := by omega
      have hres : fnR PR = .tup [.list [], .int .i64 (fr : Int), .int .i64 2] := by rw [hR.of, ← hq2]; rfl
      replace hq2 := Hold.mk hq2
      repeat' (first | simp only [seval, evo, beq_self_eq_true, insA, encIns, dq13, *] | simp (disch := omega) only [if_pos, if_neg] | refine zG ?_ | refine zH ?_ | refine zI rfl ?_ | refine zJ rfl ?_ | refine zL ?_ | refine zM ?_ | refine zN ?_ | refine zO ?_ | ((first | refine zP hcl ?_ | refine zQ hcl ?_); simp only [seval, evw, fm, insA, encIns, dq13, *]) | ((first | refine zA ?_ ?_ | refine zC ?_ ?_ | refine zE ?_ ?_) <;> (intro hc; try simp only [seval, nf] at hc)) | refine zR ?_ | refine zS rfl ?_)
    · rw [if_pos (by simp; omega)] at hq2
      have e5 : ¬ (fr : Int) < (s.length : Int) := by omega
      have hres := hR.of
      rw [← hq2] at hres
      simp only at hres
      have hc1 := asm_Check_ok f
      obtain ⟨k, hk1, hk2⟩ := fnChk_at f
      unfold encFn fnChkA at hc1
      rw [hk1] at hc1 hres
      simp only [Int.toNat_natCast] at hres
      generalize (fnChk f).2 = e at *
      clear hk1
      replace hq2 := Hold.mk hq2
      replace hc1 := Hold.mk hc1
      by_cases he : e = 0
      · rw [if_pos he] at hres
        have hres2 : fnR PR = .tup [.list (f.map encIns), .int .i64 0, .int .i64 0] := by rw [hres]; rfl
        subst he
        replace hres := Hold.mk hres
        repeat' (first | simp only [seval, evo, beq_self_eq_true, insA, encIns, dq13, *] | simp (disch := omega) only [if_pos, if_neg] | refine zG ?_ | refine zH ?_ | refine zI rfl ?_ | refine zJ rfl ?_ | refine zL ?_ | refine zM ?_ | refine zN ?_ | refine zO ?_ | ((first | refine zP hcl ?_ | refine zQ hcl ?_); simp only [seval, evw, fm, insA, encIns, dq13, *]) | ((first | refine zA ?_ ?_ | refine zC ?_ ?_ | refine zE ?_ ?_) <;> (intro hc; try simp only [seval, nf] at hc)) | refine zR ?_ | refine zS rfl ?_)
        first | refine zT (hc1.of) ?_ | refine zV (hc1.of) rfl ?_ | refine zU (hc1.of) ?_
        repeat' (first | simp only [seval, evo, beq_self_eq_true, insA, encIns, dq13, *] | simp (disch := omega) only [if_pos, if_neg] | refine zG ?_ | refine zH ?_ | refine zI rfl ?_ | refine zJ rfl ?_ | refine zL ?_ | refine zM ?_ | refine zN ?_ | refine zO ?_ | ((first | refine zP hcl ?_ | refine zQ hcl ?_); simp only [seval, evw, fm, insA, encIns, dq13, *]) | ((first | refine zA ?_ ?_ | refine zC ?_ ?_ | refine zE ?_ ?_) <;> (intro hc; try simp only [seval, nf] at hc)) | refine zR ?_ | refine zS rfl ?_)
      · rw [if_neg he] at hres
        by_cases hkb : k < bg.length
        · rw [if_pos hkb] at hres
          have hres2 : fnR PR = .tup [.list [], .int .i64 ((bg.getD k 0 : Nat) : Int), .int .i64 e] := by rw [hres]; rfl
          have e6 : (k : Int) < (bg.length : Int) := by omega
          have hg := getD_encN hkb
          replace hres := Hold.mk hres
          repeat' (first | simp only [seval, evo, beq_self_eq_true, insA, encIns, dq13, *] | simp (disch := omega) only [if_pos, if_neg] | refine zG ?_ | refine zH ?_ | refine zI rfl ?_ | refine zJ rfl ?_ | refine zL ?_ | refine zM ?_ | refine zN ?_ | refine zO ?_ | ((first | refine zP hcl ?_ | refine zQ hcl ?_); simp only [seval, evw, fm, insA, encIns, dq13, *]) | ((first | refine zA ?_ ?_ | refine zC ?_ ?_ | refine zE ?_ ?_) <;> (intro hc; try simp only [seval, nf] at hc)) | refine zR ?_ | refine zS rfl ?_)
          first | refine zT (hc1.of) ?_ | refine zV (hc1.of) rfl ?_ | refine zU (hc1.of) ?_
          repeat' (first | simp only [seval, evo, beq_self_eq_true, insA, encIns, dq13, *] | simp (disch := omega) only [if_pos, if_neg] | refine zG ?_ | refine zH ?_ | refine zI rfl ?_ | refine zJ rfl ?_ | refine zL ?_ | refine zM ?_ | refine zN ?_ | refine zO ?_ | ((first | refine zP hcl ?_ | refine zQ hcl ?_); simp only [seval, evw, fm, insA, encIns, dq13, *]) | ((first | refine zA ?_ ?_ | refine zC ?_ ?_ | refine zE ?_ ?_) <;> (intro hc; try simp only [seval, nf] at hc)) | refine zR ?_ | refine zS rfl ?_)
        · rw [if_neg hkb] at hres
          have hres2 : fnR PR = .tup [.list [], .int .i64 (k : Int), .int .i64 e] := by rw [hres]; rfl
          have e6 : ¬ (k : Int) < (bg.length : Int) := by omega
          replace hres := Hold.mk hres
          repeat' (first | simp only [seval, evo, beq_self_eq_true, insA, encIns, dq13, *] | simp (disch := omega) only [if_pos, if_neg] | refine zG ?_ | refine zH ?_ | refine zI rfl ?_ | refine zJ rfl ?_ | refine zL ?_ | refine zM ?_ | refine zN ?_ | refine zO ?_ | ((first | refine zP hcl ?_ | refine zQ hcl ?_); simp only [seval, evw, fm, insA, encIns, dq13, *]) | ((first | refine zA ?_ ?_ | refine zC ?_ ?_ | refine zE ?_ ?_) <;> (intro hc; try simp only [seval, nf] at hc)) | refine zR ?_ | refine zS rfl ?_)
          first | refine zT (hc1.of) ?_ | refine zV (hc1.of) rfl ?_ | refine zU (hc1.of) ?_
          repeat' (first | simp only [seval, evo, beq_self_eq_true, insA, encIns, dq13, *] | simp (disch := omega) only [if_pos, if_neg] | refine zG ?_ | refine zH ?_ | refine zI rfl ?_ | refine zJ rfl ?_ | refine zL ?_ | refine zM ?_ | refine zN ?_ | refine zO ?_ | ((first | refine zP hcl ?_ | refine zQ hcl ?_); simp only [seval, evw, fm, insA, encIns, dq13, *]) | ((first | refine zA ?_ ?_ | refine zC ?_ ?_ | refine zE ?_ ?_) <;> (intro hc; try simp only [seval, nf] at hc)) | refine zR ?_ | refine zS rfl ?_)
def ks : St := ⟨[noW, noW, ⟨true, 5⟩] ++ List.replicate 21 noW, [], 0, 0⟩
def kt : St := ⟨[noW, ⟨true, 9⟩, ⟨true, 5⟩] ++ List.replicate 21 noW, [], 1, 1⟩
theorem stepF_len (f : List Ins) (s : St) (ask : List Int) : (stepF f s ask).1.L.length = s.L.length := by
  unfold stepF
  split
  · exact stepW_len _ _ _
  · rfl
theorem moveS_heap (s : St) (x : Ins) : (moveS s x).heap = s.heap := by unfold moveS; (repeat' split) <;> rfl
theorem moveS_asked (s : St) (x : Ins) : (moveS s x).asked = s.asked := by unfold moveS; (repeat' split) <;> rfl
theorem setS_heap (s : St) (d : Nat) (v how : Int) : (setS s d v how).heap = s.heap := by unfold setS; split <;> rfl
theorem setS_asked (s : St) (d : Nat) (v how : Int) : (setS s d v how).asked = s.asked := by unfold setS; split <;> rfl
theorem hStore_len (h : List Int) (a v : Int) (e : (hStore h a v).2 = 0) : (hStore h a v).1.length = h.length := by
  revert e
  unfold hStore
  split <;> simp
theorem stepW_heap (s : St) (x : Ins) (ask : List Int) : (stepW s x ask).1.heap.length = s.heap.length := by
  unfold stepW
  simp only
  split
  · split <;> simp [setS_heap]
  · split
    · split
      · rename_i h
        exact hStore_len _ _ _ h
      · rfl
    · (repeat' split) <;> simp [setS_heap, moveS_heap, callS]
theorem stepF_evs (f : List Ins) (s : St) (ask : List Int) : (stepF f s ask).2.1.length ≤ 1 := by
  unfold stepF
  split
  · unfold stepW
    simp only
    (repeat' split) <;> simp
  · simp
def ic (R : List Int) : List AV := R.map (AV.int .i64)
theorem ic_len (R : List Int) : (ic R).length = R.length := by simp [ic]
theorem ic_get {R : List Int} {r : List AV} {i : Nat} (h : i < R.length) : (ic R ++ r)[i]? = some (.int .i64 (R.getD i 0)) := by
  rw [List.getElem?_append_left (by rw [ic_len]; exact h)]
  simp [ic, List.getD, h]
theorem ic_clean (m : Nat) : ∀ R : List Int, cleanAll m (ic R) = true
  | [] => rfl
  | n :: R => by
    have := ic_clean m R
    show (AV.clean m (.int .i64 n) && cleanAll m (ic R)) = true
    rw [this]; rfl
theorem cl_ic {m : Nat} {R : List Int} {r : List AV} : cleanAll m (ic R ++ r) = cleanAll m r := by rw [cleanAll_app, ic_clean, Bool.true_and]
theorem ac_ic {R : List Int} {r : List AV} : allCells (ic R ++ r) = allCells r := by
  rw [ac_app]
  have : ∀ R : List Int, allCells (ic R) = true := fun R => by
    unfold allCells ic
    rw [List.all_map, List.all_eq_true]
    intro x _
    rfl
  rw [this, Bool.true_and]
theorem vws_ic {H : List AObj} {m : Nat} {R : List Int} {x y : List AV} : Views H m (ic R ++ x) (ic R ++ y) = Views H m x y := propext ⟨Views.post, Views.pre (ic_clean m R)⟩
theorem lss_ic {H G : List AObj} {R : List Int} {x y : List AV} : Loses H G (ic R ++ x) (ic R ++ y) = Loses H G x y := propext ⟨Loses.post, Loses.pre⟩
theorem ti_hi {R : List Int} {b : List AV} {n : Nat} (h : (ic R).length ≤ n) : (ic R ++ b).take n = ic R ++ b.take (n - (ic R).length) := by rw [List.take_append, List.take_of_length_le h]
theorem di_hi {R : List Int} {b : List AV} {n : Nat} (h : (ic R).length ≤ n) : (ic R ++ b).drop n = b.drop (n - (ic R).length) := by rw [List.drop_append, List.drop_of_length_le h, List.nil_append]
theorem gi_hi {R : List Int} {b : List AV} {n : Nat} (h : (ic R).length ≤ n) : (ic R ++ b)[n]? = b[n - (ic R).length]? := List.getElem?_append_right h
theorem ln_ic {R : List Int} {b : List AV} : (ic R ++ b).length = (ic R).length + b.length := List.length_append
theorem ic_app {R : List Int} {a b : List AV} : (ic R ++ a) ++ b = ic R ++ (a ++ b) := List.append_assoc _ _ _
set_option linter.defProp false in
def ec := And.intro @cl_ic (And.intro @ac_ic (And.intro @vws_ic (And.intro @lss_ic (And.intro @ti_hi (And.intro @di_hi (And.intro @gi_hi (And.intro @ln_ic (@ic_app))))))))
structure Cs where
  R : List Int
  heap : List Int
  ans : List Int
  fuel : Int
deriving DecidableEq
def csA (c : Cs) : AV := .agg (ic c.R ++ [ints c.heap, ints c.ans, .int .i64 c.fuel])
theorem csA_eq (c : Cs) : csA c = .agg (ic c.R ++ [.list (c.heap.map encI), .list (c.ans.map encI), .int .i64 c.fuel]) := rfl
def csRight (c : Cs) : Bool := decide (c.heap.length ≤ 16) && (decide (c.ans.length ≤ 5000) && (decide (0 ≤ c.fuel) && decide (c.fuel ≤ 5000)))
def beginS (c : Cs) : St := ⟨c.R.map (fun v => ⟨true, v⟩) ++ List.replicate 16 noW, c.heap, 0, 0⟩
theorem beginS_len {c : Cs} (h : c.R.length = 8) : (beginS c).L.length = 24 := by simp [beginS, h]
def bL (R : List Int) (i : Nat) : List W := (R.take i).map (fun v => ⟨true, v⟩) ++ List.replicate (24 - i) noW
theorem bL_len {R : List Int} {i : Nat} (h : R.length = 8) (hi : i ≤ 8) : (bL R i).length = 24 := by simp [bL, h]; omega
theorem bL_set {R : List Int} {i : Nat} (h : R.length = 8) (hi : i < 8) : (bL R i).set i ⟨true, R.getD i 0⟩ = bL R (i + 1) := by
  unfold bL
  have hl : ((R.take i).map (fun v => (⟨true, v⟩ : W))).length = i := by simp; omega
  rw [List.set_append_right _ _ (by omega), hl, Nat.sub_self]
  have e : 24 - i = (24 - (i + 1)) + 1 := by omega
  rw [e, List.replicate_succ, List.set_cons_zero, List.take_succ_eq_append_getElem (by omega), List.map_append, List.append_assoc]
  simp [List.getD, show i < R.length by omega]
theorem bL_end {R : List Int} (h : R.length = 8) : bL R 8 = R.map (fun v => ⟨true, v⟩) ++ List.replicate 16 noW := by
  unfold bL
  rw [List.take_of_length_le (by omega)]
theorem bL_zero (R : List Int) : bL R 0 = List.replicate 24 noW := by simp [bL]
set_option linter.defProp false in
def dq14 := And.intro @sb (And.intro @ew (And.intro @ec (And.intro @evs_eq (And.intro @encEv_def (And.intro @List.map_nil.{0,0} (@Nat.mul_one))))))
theorem run_Right_ok (c : Cs) (hR : c.R.length = 8) : Pure Tryd.prog 43 [csA c] (.bool (csRight c)) := by
  intro H
  refine ACalls.go run_Right.low (by simp) fun hcl => ?_
  have hil : (ic c.R).length = 8 := by rw [ic_len, hR]
  have hr : csRight c = (decide (c.heap.length ≤ 16) && (decide ((c.ans.length : Int) ≤ 5000) && (decide (0 ≤ c.fuel) && decide (c.fuel ≤ 5000)))) := by
    unfold csRight
    rw [show decide (c.ans.length ≤ 5000) = decide ((c.ans.length : Int) ≤ 5000) from decide_eq_decide.2 (by omega)]
  rw [hr, csA_eq]
  replace hr := Hold.mk hr
  replace hR := Hold.mk hR
  by_cases k1 : c.heap.length ≤ 16
  case neg => repeat' (first | simp only [seval, evx, beq_self_eq_true, dq14, *] | simp (disch := omega) only [if_pos, if_neg] | refine zG ?_ | refine zH ?_ | refine zI rfl ?_ | refine zK ?_ | refine zL ?_ | refine zM ?_ | refine zN ?_ | refine zO ?_ | ((first | refine zP hcl ?_ | refine zQ hcl ?_); simp only [seval, evw, fm, dq14, *]) | ((first | refine zB ?_ ?_ | refine zD ?_ ?_ | refine zF ?_ ?_) <;> (intro hc; try simp only [seval, nf] at hc)) | refine zR ?_ | refine CallX.inst ?_ | (with_reducible refine And.intro ?_ ?_) | exact True.intro)
  by_cases k2 : (c.ans.length : Int) ≤ 5000
  case neg => repeat' (first | simp only [seval, evx, beq_self_eq_true, dq14, *] | simp (disch := omega) only [if_pos, if_neg] | refine zG ?_ | refine zH ?_ | refine zI rfl ?_ | refine zK ?_ | refine zL ?_ | refine zM ?_ | refine zN ?_ | refine zO ?_ | ((first | refine zP hcl ?_ | refine zQ hcl ?_); simp only [seval, evw, fm, dq14, *]) | ((first | refine zB ?_ ?_ | refine zD ?_ ?_ | refine zF ?_ ?_) <;> (intro hc; try simp only [seval, nf] at hc)) | refine zR ?_ | refine CallX.inst ?_ | (with_reducible refine And.intro ?_ ?_) | exact True.intro)
  by_cases k3 : 0 ≤ c.fuel
  case neg => repeat' (first | simp only [seval, evx, beq_self_eq_true, dq14, *] | simp (disch := omega) only [if_pos, if_neg] | refine zG ?_ | refine zH ?_ | refine zI rfl ?_ | refine zK ?_ | refine zL ?_ | refine zM ?_ | refine zN ?_ | refine zO ?_ | ((first | refine zP hcl ?_ | refine zQ hcl ?_); simp only [seval, evw, fm, dq14, *]) | ((first | refine zB ?_ ?_ | refine zD ?_ ?_ | refine zF ?_ ?_) <;> (intro hc; try simp only [seval, nf] at hc)) | refine zR ?_ | refine CallX.inst ?_ | (with_reducible refine And.intro ?_ ?_) | exact True.intro)
  repeat' (first | simp only [seval, evx, beq_self_eq_true, dq14, *] | simp (disch := omega) only [if_pos, if_neg] | refine zG ?_ | refine zH ?_ | refine zI rfl ?_ | refine zK ?_ | refine zL ?_ | refine zM ?_ | refine zN ?_ | refine zO ?_ | ((first | refine zP hcl ?_ | refine zQ hcl ?_); simp only [seval, evw, fm, dq14, *]) | ((first | refine zB ?_ ?_ | refine zD ?_ ?_ | refine zF ?_ ?_) <;> (intro hc; try simp only [seval, nf] at hc)) | refine zR ?_ | refine CallX.inst ?_ | (with_reducible refine And.intro ?_ ?_) | exact True.intro)
set_option maxHeartbeats 2000000 in
theorem run_Begin_ok (c : Cs) (hR : c.R.length = 8) (hh : c.heap.length ≤ 1000) : Pure Tryd.prog 44 [csA c] (stA (beginS c)) := by
  intro H
  refine ACalls.go run_Begin.low (by simp) fun hcl => ?_
  have hil : (ic c.R).length = 8 := by rw [ic_len, hR]
  rw [stA_eq, csA_eq]
  have hb : (beginS c).L = bL c.R 8 := by rw [bL_end hR]; rfl
  have hb2 : (beginS c).heap = c.heap := rfl
  have hb3 : (beginS c).pc = 0 := rfl
  have hb4 : (beginS c).asked = 0 := rfl
  rw [hb, hb2, hb3, hb4]
  have rk : rowsOk 1 (c.heap.map encI) = true := rk_map fun x _ => ⟨rfl, rfl⟩
  have b1 : c.heap.length * 8 ≤ 140737488355328 := by omega
  have b2 : c.heap.length ≤ 9223372036854775807 := by omega
  have b3 : (0 + c.heap.length) * 8 ≤ 140737488355328 := by omega
  have hz : wc (bL c.R 0) = [.bool false, .int .i64 0, .bool false, .int .i64 0, .bool false, .int .i64 0, .bool false, .int .i64 0, .bool false, .int .i64 0, .bool false, .int .i64 0, .bool false, .int .i64 0, .bool false, .int .i64 0, .bool false, .int .i64 0, .bool false, .int .i64 0, .bool false, .int .i64 0, .bool false, .int .i64 0, .bool false, .int .i64 0, .bool false, .int .i64 0, .bool false, .int .i64 0, .bool false, .int .i64 0, .bool false, .int .i64 0, .bool false, .int .i64 0, .bool false, .int .i64 0, .bool false, .int .i64 0, .bool false, .int .i64 0, .bool false, .int .i64 0, .bool false, .int .i64 0, .bool false, .int .i64 0] := by rw [bL_zero]; rfl
  replace hb := Hold.mk hb
  replace hb2 := Hold.mk hb2
  replace hb3 := Hold.mk hb3
  replace hb4 := Hold.mk hb4
  replace hR := Hold.mk hR
  replace hz := Hold.mk hz
  repeat' (first | simp only [seval, evx, beq_self_eq_true, dq14, *] | simp (disch := omega) only [if_pos, if_neg] | refine zG ?_ | refine zH ?_ | refine zI rfl ?_ | refine zK ?_ | refine zL ?_ | refine zM ?_ | refine zN ?_ | refine zO ?_ | ((first | refine zP hcl ?_ | refine zQ hcl ?_); simp only [seval, evw, fm, dq14, *]) | ((first | refine zB ?_ ?_ | refine zD ?_ ?_ | refine zF ?_ ?_) <;> (intro hc; try simp only [seval, nf] at hc)) | refine zR ?_ | refine CallX.inst ?_ | (with_reducible refine And.intro ?_ ?_) | exact True.intro)
  refine R.loop (S := Nat) ⟨fun i => [(1, .ptr H.length 1 0 0), (2, .ptr (H.length + 1) 1 0 0), (3, .ptr (H.length + 3) 1 0 0), (10, .int .i64 (i : Int))], fun i => H ++ [.vec 11 [ic c.R ++ [.list (c.heap.map encI), .list (c.ans.map encI), .int .i64 c.fuel]], .vec 51 [[.bool false, .int .i64 0, .bool false, .int .i64 0, .bool false, .int .i64 0, .bool false, .int .i64 0, .bool false, .int .i64 0, .bool false, .int .i64 0, .bool false, .int .i64 0, .bool false, .int .i64 0, .bool false, .int .i64 0, .bool false, .int .i64 0, .bool false, .int .i64 0, .bool false, .int .i64 0, .bool false, .int .i64 0, .bool false, .int .i64 0, .bool false, .int .i64 0, .bool false, .int .i64 0, .bool false, .int .i64 0, .bool false, .int .i64 0, .bool false, .int .i64 0, .bool false, .int .i64 0, .bool false, .int .i64 0, .bool false, .int .i64 0, .bool false, .int .i64 0, .bool false, .int .i64 0, .imm (.slice none 0 0), .int .i64 0, .int .i64 0]], .gone, .vec 51 [wc (bL c.R i) ++ [.list (c.heap.map encI), .int .i64 0, .int .i64 0]]], fun i => i ≤ 8, fun i => 8 - i⟩ 0 (Nat.zero_le _) ?_ ?_
  · simp only [hz.of, List.cons_append, List.nil_append]
    refine Weak.loseAt _ _ ?_
    simp only [seval, evw, lk, fm, sb, ew, ec, evs_eq, encEv_def, List.map_nil, Nat.mul_one, *]
  intro i hi
  simp only at hi ⊢
  have hwl : (wc (bL c.R i)).length = 48 := by rw [wc_len, bL_len hR.of hi]
  by_cases hlt : i < 8
  · have e1 : (i : Int) < 8 := by omega
    have e2 : IntKind.i64.wrap ((i : Int) + 1) = ((i + 1 : Nat) : Int) := by rw [IntKind.wrap_i64]; omega
    have e3 : (i : Int) < 24 := by omega
    have e4 : i * 2 + 2 ≤ 51 := by omega
    have hg := ic_get (R := c.R) (r := [.list (c.heap.map encI), .list (c.ans.map encI), .int .i64 c.fuel]) (i := i) (by rw [hR.of]; exact hlt)
    have hp := wr_put2 (L := bL c.R i) (r := [.list (c.heap.map encI), .int .i64 0, .int .i64 0]) (i := i) ⟨true, c.R.getD i 0⟩ (by rw [bL_len hR.of hi]; omega)
    rw [bL_set hR.of hlt] at hp
    generalize c.R.getD i 0 = v at *
    simp only at hp
    repeat' (first | simp only [seval, evx, beq_self_eq_true, dq14, *] | simp (disch := omega) only [if_pos, if_neg] | refine zG ?_ | refine zH ?_ | refine zI rfl ?_ | refine zK ?_ | refine zL ?_ | refine zM ?_ | refine zN ?_ | refine zO ?_ | ((first | refine zP hcl ?_ | refine zQ hcl ?_); simp only [seval, evw, fm, dq14, *]) | ((first | refine zB ?_ ?_ | refine zD ?_ ?_ | refine zF ?_ ?_) <;> (intro hc; try simp only [seval, nf] at hc)) | refine zR ?_ | refine CallX.inst ?_ | (with_reducible refine And.intro ?_ ?_) | exact True.intro)
    refine ⟨i + 1, hlt, by simp only; omega, Weak.at hcl ?_⟩
    simp only [seval, evw, fm, dq14, *]
  · have hie : i = 8 := by omega
    subst hie
    have e5 : (((8 : Nat) : Int)) = 8 := rfl
    repeat' (first | simp only [seval, evx, beq_self_eq_true, dq14, *] | simp (disch := omega) only [if_pos, if_neg] | refine zG ?_ | refine zH ?_ | refine zI rfl ?_ | refine zK ?_ | refine zL ?_ | refine zM ?_ | refine zN ?_ | refine zO ?_ | ((first | refine zP hcl ?_ | refine zQ hcl ?_); simp only [seval, evw, fm, dq14, *]) | ((first | refine zB ?_ ?_ | refine zD ?_ ?_ | refine zF ?_ ?_) <;> (intro hc; try simp only [seval, nf] at hc)) | refine zR ?_ | refine CallX.inst ?_ | (with_reducible refine And.intro ?_ ?_) | exact True.intro)
end Go.Proofs.YtnbdpjhmepgoaaaDoor
namespace Go.Proofs.YtnbdpjhmepgoaaaDoor
set_option linter.unusedVariables false
set_option linter.unusedSimpArgs false
set_option linter.defProp false in
def eb0 := And.intro @wpG_none (And.intro @wpG_hit (And.intro @wpG_miss (And.intro @wpG_skip (And.intro @ev_tmp (And.intro @ev_cst (And.intro @Tm.put_some (And.intro @Tm.put_none (And.intro @argsT_zero (And.intro @argsT_succ (And.intro @List.map_cons.{0,0} (And.intro @List.map_nil.{0,0} (And.intro @Option.map_some.{0,0} (And.intro @Option.map_none.{0,0} (And.intro @Option.bind_some.{0,0} (And.intro @Option.bind_none.{0,0} (And.intro @List.length_cons.{0} (And.intro @List.length_nil.{0} (And.intro @List.length_map.{0,0} (And.intro @CallA_fn (And.intro @ne_eq.{1} (And.intro @not_false_eq_true (And.intro @not_true_eq_false (And.intro @Bool.not_true (And.intro @Bool.not_false (And.intro @forall_const.{1} (And.intro @forall_const.{0} (And.intro @false_implies (And.intro @true_implies (And.intro @implies_true.{1} (And.intro @implies_true.{0} (And.intro @true_and (And.intro @and_true (And.intro @false_and (And.intro @and_false (And.intro @and_self (And.intro @or_self (And.intro @true_or (And.intro @or_true (And.intro @false_or (And.intro @or_false (And.intro @Bool.true_eq_false (And.intro @Bool.false_eq_true (And.intro @if_true.{1} (And.intro @if_true.{0} (And.intro @if_false.{1} (And.intro @if_false.{0} (And.intro @foldI_two (And.intro @bdA_no (And.intro @bdA_int (And.intro @ixA_int (And.intro @binA_int (And.intro @List.contains_cons.{0} (And.intro @List.contains_nil.{0} (And.intro @Bool.or_true (And.intro @Bool.true_or (And.intro @Bool.or_false (And.intro @Bool.false_or (And.intro @Int.toNat_natCast (And.intro @Nat.zero_add (@Nat.add_zero))))))))))))))))))))))))))))))))))))))))))))))))))))))))))))
set_option linter.defProp false in
def eb1 := And.intro @List.all_cons.{0} (And.intro @List.all_nil.{0} (And.intro @List.take_succ_cons.{0} (And.intro @List.take_zero.{0} (And.intro @List.take_nil.{0} (And.intro @List.drop_zero.{0} (And.intro @List.drop_succ_cons.{0} (And.intro @List.drop_nil.{0} (And.intro @List.nil_append.{0} (And.intro @List.cons_append.{0} (And.intro @List.append_nil.{0} (And.intro @List.getElem?_cons_zero.{0} (And.intro @List.getElem?_cons_succ.{0} (And.intro @List.getElem?_nil.{0} (And.intro @List.set_cons_zero.{0} (And.intro @List.set_cons_succ.{0} (And.intro @hp_get (And.intro @hp_get0 (And.intro @hp_set (And.intro @hp_set0 (And.intro @hp_len (And.intro @hp_app (And.intro @hp_take (And.intro @Bool.and_true (And.intro @Bool.true_and (And.intro @Bool.and_self (And.intro @Bool.and_false (And.intro @Bool.false_and (And.intro @List.replicate_succ.{0} (And.intro @List.replicate_zero.{0} (And.intro @Nat.add_assoc (@beq_self_eq_true.{0})))))))))))))))))))))))))))))))
theorem encIns_heads (l : List Ins) : (l.map encIns = [] ∨ ((l.map encIns).headD []).length = 6) = True := heads encIns 6 (fun _ => rfl) l
theorem getD_mapc {α : Type} (f : α → List AV) (l : List α) (k : Nat) (h : k < l.length) : (l.map f).getD k [] = f l[k] := by simp [h]
theorem cand_head_ok (f : List Ins) : Pure Tryd.prog 39 [encFn f] (encFn (f.take 200)) := by
  intro H
  refine ACalls.low cand_head.low (by simp) fun hcl => ?_
  have h1 : 0 ≤ min2 (f.length : Int) 200 := by unfold min2; split <;> omega
  have h2 : min2 (f.length : Int) 200 ≤ f.length := by unfold min2; split <;> omega
  unfold cand_head.lc encFn
  refine LCB.seq (LCB.text ?_)
  simp only [wpL, wpO, stepL, pureStep, reduceIte, reduceCtorEq, Nat.reduceEqDiff, Nat.reduceAdd, Nat.reduceLT, Nat.reduceLeDiff, Nat.reduceMul, Nat.reduceSub, Int.reduceLE, Int.reduceLT, Int.reduceToNat, Int.reduceAdd, Int.reduceSub, Int.reduceMul, Int.reduceEq, Int.reduceNe, arith, keepT, Nat.reduceBEq, eb0]
  refine LCB.seq (LCB.text ?_)
  simp only [wpL, wpO, stepL, pureStep, reduceIte, reduceCtorEq, Nat.reduceEqDiff, Nat.reduceAdd, Nat.reduceLT, Nat.reduceLeDiff, Nat.reduceMul, Nat.reduceSub, Int.reduceLE, Int.reduceLT, Int.reduceToNat, Int.reduceAdd, Int.reduceSub, Int.reduceMul, Int.reduceEq, Int.reduceNe, arith, keepT, Nat.reduceBEq, eb0, h1, h2, encIns_heads]
  refine LCB.ret ⟨.inr rfl, RetOk.pure0 hcl rfl (.same _ rfl) ⟨?_, rfl⟩⟩
  simp only [wpL, wpO, stepL, pureStep, reduceIte, reduceCtorEq, Nat.reduceEqDiff, Nat.reduceAdd, Nat.reduceLT, Nat.reduceLeDiff, Nat.reduceMul, Nat.reduceSub, Int.reduceLE, Int.reduceLT, Int.reduceToNat, Int.reduceAdd, Int.reduceSub, Int.reduceMul, Int.reduceEq, Int.reduceNe, arith, keepT, Nat.reduceBEq, eb0, resV, List.drop_zero, Nat.sub_zero]
  congr 1
  have : (min2 (f.length : Int) 200).toNat = min 200 f.length := by unfold min2; split <;> omega
  rw [this, List.map_take]
  by_cases h : 200 ≤ f.length
  · rw [Nat.min_eq_left h]
  · rw [Nat.min_eq_right (by omega), List.take_of_length_le (by simp), List.take_of_length_le (by simp; omega)]
def constsOf (l : List Ins) : List Int := (l.filter fun x => x.op == 1).map (·.n)
theorem constsOf_len (l : List Ins) : (constsOf l).length ≤ l.length := by unfold constsOf; simp; exact List.length_filter_le _ _
theorem constsOf_take (l : List Ins) (k : Nat) (h : k < l.length) : constsOf (l.take (k + 1)) = constsOf (l.take k) ++ if l[k].op = 1 then [l[k].n] else [] := by
  rw [List.take_succ_eq_append_getElem h]
  unfold constsOf
  rw [List.filter_append, List.map_append]
  congr 1
  by_cases e : l[k].op = 1 <;> simp [List.filter_cons, e]
def constsTo (f g : List Ins) (k : Nat) : List Int := (([f, g].take k).map constsOf).flatten
theorem cand_constants_ok (f g : List Ins) : Pure Tryd.prog 28 [encFn f, encFn g] (ints (constsOf (f.take 200) ++ constsOf (g.take 200))) := by
  intro H
  refine ACalls.low cand_constants.low (by simp) fun hcl => ?_
  unfold cand_constants.lc
  refine LCB.seq (LCB.text ?_)
  simp only [wpL, wpO, stepL, pureStep, reduceIte, reduceCtorEq, Nat.reduceEqDiff, Nat.reduceAdd, Nat.reduceLT, Nat.reduceLeDiff, Nat.reduceMul, Nat.reduceSub, Int.reduceLE, Int.reduceLT, Int.reduceToNat, Int.reduceAdd, Int.reduceSub, Int.reduceMul, Int.reduceEq, Int.reduceNe, arith, keepT, Nat.reduceBEq, eb0, rowOf, partA, cellsOf, allCells, AV.cell, putRow, fillA, fillRows, appendL, elems, rowsOk, eb1]
  refine LCB.seq (LCB.text ?_)
  simp only [wpL, wpO, stepL, pureStep, reduceIte, reduceCtorEq, Nat.reduceEqDiff, Nat.reduceAdd, Nat.reduceLT, Nat.reduceLeDiff, Nat.reduceMul, Nat.reduceSub, Int.reduceLE, Int.reduceLT, Int.reduceToNat, Int.reduceAdd, Int.reduceSub, Int.reduceMul, Int.reduceEq, Int.reduceNe, arith, keepT, Nat.reduceBEq, eb0, rowOf, partA, cellsOf, allCells, AV.cell, putRow, fillA, fillRows, appendL, elems, rowsOk, eb1]
  refine LCB.pre (Weak.grow 5 1 (by decide) rfl) ?_
  refine LCB.seq (LCB.seq (LCB.text (wpL_at 2 fun K hK => ?_)))
  simp only [wpL, wpO, stepL, pureStep, reduceIte, reduceCtorEq, Nat.reduceEqDiff, Nat.reduceAdd, Nat.reduceLT, Nat.reduceLeDiff, Nat.reduceMul, Nat.reduceSub, Int.reduceLE, Int.reduceLT, Int.reduceToNat, Int.reduceAdd, Int.reduceSub, Int.reduceMul, Int.reduceEq, Int.reduceNe, arith, keepT, Nat.reduceBEq, eb0, rowOf, partA, cellsOf, allCells, AV.cell, putRow, fillA, fillRows, appendL, elems, rowsOk, eb1]
  refine ACalls.pure (cand_head_ok f) (hK _ (wpL_at 2 fun K2 hK2 => ?_))
  simp only [wpL, wpO, stepL, pureStep, reduceIte, reduceCtorEq, Nat.reduceEqDiff, Nat.reduceAdd, Nat.reduceLT, Nat.reduceLeDiff, Nat.reduceMul, Nat.reduceSub, Int.reduceLE, Int.reduceLT, Int.reduceToNat, Int.reduceAdd, Int.reduceSub, Int.reduceMul, Int.reduceEq, Int.reduceNe, arith, keepT, Nat.reduceBEq, eb0, rowOf, partA, cellsOf, allCells, AV.cell, putRow, fillA, fillRows, appendL, elems, rowsOk, eb1]
  refine ACalls.pure (cand_head_ok g) (hK2 _ ?_)
  clear hK2 K2 hK K
  simp only [wpL, wpO, stepL, pureStep, reduceIte, reduceCtorEq, Nat.reduceEqDiff, Nat.reduceAdd, Nat.reduceLT, Nat.reduceLeDiff, Nat.reduceMul, Nat.reduceSub, Int.reduceLE, Int.reduceLT, Int.reduceToNat, Int.reduceAdd, Int.reduceSub, Int.reduceMul, Int.reduceEq, Int.reduceNe, arith, keepT, Nat.reduceBEq, eb0, rowOf, partA, cellsOf, allCells, AV.cell, putRow, fillA, fillRows, appendL, elems, rowsOk, eb1, encFn]
  refine LCB.count (σ := ⟨_, _⟩) 2 (by decide) (fun k σ => σ.t 14 = .agg [encFn (f.take 200), encFn (g.take 200)] ∧ σ.t 5 = .sl 1 H.length (constsTo (f.take 200) (g.take 200) k).length 0 (constsTo (f.take 200) (g.take 200) k).length ∧
    σ.H = H ++ [.vec 1 ((constsTo (f.take 200) (g.take 200) k).map encI)]) 0 rfl (by decide) ⟨rfl, rfl, rfl⟩ (by decide) (by decide) ?_ ?_ ?_ ?_
  · rintro k t H' d v (rfl | rfl | rfl) ⟨h1, h2, h3⟩ <;> exact ⟨h1, h2, h3⟩
  · intro k t H' _ _; rfl
  · rintro k t H' hk hi ⟨h1, h2, h3⟩
    obtain ⟨l, hl, hl200⟩ : ∃ l : List Ins, ([f.take 200, g.take 200] : List (List Ins))[k]? = some l ∧ l.length ≤ 200 := by
      match k, hk with
      | 0, _ => exact ⟨_, rfl, by simp; omega⟩
      | 1, _ => exact ⟨_, rfl, by simp; omega⟩
    have hstep : constsTo (f.take 200) (g.take 200) (k + 1) = constsTo (f.take 200) (g.take 200) k ++ constsOf l := by
      unfold constsTo
      rw [List.take_add_one, hl]
      simp
    have hlen : (constsTo (f.take 200) (g.take 200) k).length ≤ 200 := by
      have h0 := constsOf_len (f.take 200)
      have h1 : (f.take 200).length ≤ 200 := by simp; omega
      match k, hk with
      | 0, _ => simp [constsTo]
      | 1, _ => simp [constsTo]; omega
    generalize constsTo (f.take 200) (g.take 200) k = xs at h2 h3 hstep hlen
    simp only at h1 h2 h3
    subst h3
    have hidx : partA false 1 (k * 1) [encFn (f.take 200), encFn (g.take 200)] = some (encFn l) := by
      match k, hk with
      | 0, _ => simp only [List.getElem?_cons_zero, Option.some.injEq] at hl; subst hl; rfl
      | 1, _ => simp only [List.getElem?_cons_succ, List.getElem?_cons_zero, Option.some.injEq] at hl; subst hl; rfl
    have hk0 : 0 ≤ (k : Int) := by omega
    have hk2 : (k : Int) < ((2 : Nat) : Int) := by omega
    refine LCB.block (LCB.seq (LCB.text ?_))
    simp only [wpL, wpO, stepL, pureStep, reduceIte, reduceCtorEq, Nat.reduceEqDiff, Nat.reduceAdd, Nat.reduceLT, Nat.reduceLeDiff, Nat.reduceMul, Nat.reduceSub, Int.reduceLE, Int.reduceLT, Int.reduceToNat, Int.reduceAdd, Int.reduceSub, Int.reduceMul, Int.reduceEq, Int.reduceNe, arith, keepT, Nat.reduceBEq, eb0, hi, h1, hk0, hk2, hidx]
    refine LCB.seq (LCB.text ?_)
    simp only [wpL, wpO, stepL, pureStep, reduceIte, reduceCtorEq, Nat.reduceEqDiff, Nat.reduceAdd, Nat.reduceLT, Nat.reduceLeDiff, Nat.reduceMul, Nat.reduceSub, Int.reduceLE, Int.reduceLT, Int.reduceToNat, Int.reduceAdd, Int.reduceSub, Int.reduceMul, Int.reduceEq, Int.reduceNe, arith, keepT, Nat.reduceBEq, eb0, encFn]
    refine LCB.count (σ := ⟨_, _⟩) l.length (by omega) (fun j σ => σ.t 14 = .agg [encFn (f.take 200), encFn (g.take 200)] ∧ σ.t 15 = .int .i64 (k : Int) ∧ σ.t 18 = .list (l.map encIns) ∧ σ.t 19 = .int .i64 (l.length : Int) ∧
      σ.t 5 = .sl 1 H.length (xs ++ constsOf (l.take j)).length 0 (xs ++ constsOf (l.take j)).length ∧ σ.H = H ++ [.vec 1 ((xs ++ constsOf (l.take j)).map encI)]) 0 rfl (Nat.zero_le _) ?_ (by decide) (by decide) ?_ ?_ ?_ ?_
    · refine ⟨?_, ?_, rfl, rfl, ?_, ?_⟩
      · simpa only [wpL, wpO, stepL, pureStep, reduceIte, reduceCtorEq, Nat.reduceEqDiff, Nat.reduceAdd, Nat.reduceLT, Nat.reduceLeDiff, Nat.reduceMul, Nat.reduceSub, Int.reduceLE, Int.reduceLT, Int.reduceToNat, Int.reduceAdd, Int.reduceSub, Int.reduceMul, Int.reduceEq, Int.reduceNe, arith, keepT, Nat.reduceBEq, eb0] using h1
      · simpa only [wpL, wpO, stepL, pureStep, reduceIte, reduceCtorEq, Nat.reduceEqDiff, Nat.reduceAdd, Nat.reduceLT, Nat.reduceLeDiff, Nat.reduceMul, Nat.reduceSub, Int.reduceLE, Int.reduceLT, Int.reduceToNat, Int.reduceAdd, Int.reduceSub, Int.reduceMul, Int.reduceEq, Int.reduceNe, arith, keepT, Nat.reduceBEq, eb0] using hi
      · simpa [constsOf, wpL, wpO, stepL, pureStep, reduceIte, reduceCtorEq, Nat.reduceEqDiff, Nat.reduceAdd, Nat.reduceLT, Nat.reduceLeDiff, Nat.reduceMul, Nat.reduceSub, Int.reduceLE, Int.reduceLT, Int.reduceToNat, Int.reduceAdd, Int.reduceSub, Int.reduceMul, Int.reduceEq, Int.reduceNe, arith, keepT, Nat.reduceBEq, eb0] using h2
      · simp [constsOf]
    · rintro j t H' d v (rfl | rfl | rfl) ⟨h1, h2, h3, h4, h5, h6⟩ <;> exact ⟨h1, h2, h3, h4, h5, h6⟩
    · rintro j t H' _ ⟨h1, h2, h3, h4, h5, h6⟩; exact h4
    · rintro j t H' hj hi' ⟨g1, g2, g3, g4, g5, g6⟩
      simp only at g1 g2 g3 g4 g5 g6
      subst g6
      have htake : xs ++ constsOf (l.take (j + 1)) = (xs ++ constsOf (l.take j)) ++ if l[j].op = 1 then [l[j].n] else [] := by rw [constsOf_take l j hj, List.append_assoc]
      have hln : (xs ++ constsOf (l.take j)).length ≤ 400 := by
        have := constsOf_len (l.take j)
        simp at this ⊢
        omega
      generalize xs ++ constsOf (l.take j) = ys at *
      have hj0 : 0 ≤ (j : Int) := by omega
      have hj1 : (j : Int) < (l.length : Int) := by omega
      have hrow := getD_mapc encIns l j hj
      generalize l[j] = x at hrow htake
      refine LCB.block (LCB.seq (LCB.text ?_))
      simp only [wpL, wpO, stepL, pureStep, reduceIte, reduceCtorEq, Nat.reduceEqDiff, Nat.reduceAdd, Nat.reduceLT, Nat.reduceLeDiff, Nat.reduceMul, Nat.reduceSub, Int.reduceLE, Int.reduceLT, Int.reduceToNat, Int.reduceAdd, Int.reduceSub, Int.reduceMul, Int.reduceEq, Int.reduceNe, arith, keepT, Nat.reduceBEq, eb0, rowOf, partA, cellsOf, allCells, AV.cell, putRow, fillA, fillRows, appendL, elems, rowsOk, eb1, g3, hi', hj0, hj1, hrow, encIns]
      refine LCB.seq (LCB.text ?_)
      simp only [wpL, wpO, stepL, pureStep, reduceIte, reduceCtorEq, Nat.reduceEqDiff, Nat.reduceAdd, Nat.reduceLT, Nat.reduceLeDiff, Nat.reduceMul, Nat.reduceSub, Int.reduceLE, Int.reduceLT, Int.reduceToNat, Int.reduceAdd, Int.reduceSub, Int.reduceMul, Int.reduceEq, Int.reduceNe, arith, keepT, Nat.reduceBEq, eb0, rowOf, partA, cellsOf, allCells, AV.cell, putRow, fillA, fillRows, appendL, elems, rowsOk, eb1]
      refine LCB.cond (t := x.op == 1) (by simp only [wpL, wpO, stepL, pureStep, reduceIte, reduceCtorEq, Nat.reduceEqDiff, Nat.reduceAdd, Nat.reduceLT, Nat.reduceLeDiff, Nat.reduceMul, Nat.reduceSub, Int.reduceLE, Int.reduceLT, Int.reduceToNat, Int.reduceAdd, Int.reduceSub, Int.reduceMul, Int.reduceEq, Int.reduceNe, arith, keepT, Nat.reduceBEq, eb0]) (fun he => ?_) (fun he => ?_)
      · have hop : x.op = 1 := by simpa using he
        rw [if_pos hop] at htake
        refine LCB.text ?_
        simp only [wpL, wpO, stepL, pureStep, reduceIte, reduceCtorEq, Nat.reduceEqDiff, Nat.reduceAdd, Nat.reduceLT, Nat.reduceLeDiff, Nat.reduceMul, Nat.reduceSub, Int.reduceLE, Int.reduceLT, Int.reduceToNat, Int.reduceAdd, Int.reduceSub, Int.reduceMul, Int.reduceEq, Int.reduceNe, arith, keepT, Nat.reduceBEq, eb0, rowOf, partA, cellsOf, allCells, AV.cell, putRow, fillA, fillRows, appendL, elems, rowsOk, eb1, g5, List.length_map, if_pos (show (ys.length + 1) * 8 ≤ 140737488355328 ∧ ys.length + 1 ≤ maxLen by simp [maxLen]; omega)]
        have e1 : List.map encI ys ++ [[.int .i64 x.n]] = List.map encI (ys ++ [x.n]) := by simp [encI]
        rw [e1]
        refine ⟨_, Weak.cut [5, 14, 15, 18, 19, 20] 1 (by omega) hcl (Clean.cons (vec_clean_map encI (fun _ => rfl) _) Clean.nil) (fun n hn => ?_), hi', g1, g2, g3, g4, ?_, ?_⟩
        · simp only [List.mem_cons, List.not_mem_nil, or_false] at hn
          rcases hn with rfl | rfl | rfl | rfl | rfl | rfl <;> simp only [wpL, wpO, stepL, pureStep, reduceIte, reduceCtorEq, Nat.reduceEqDiff, Nat.reduceAdd, Nat.reduceLT, Nat.reduceLeDiff, Nat.reduceMul, Nat.reduceSub, Int.reduceLE, Int.reduceLT, Int.reduceToNat, Int.reduceAdd, Int.reduceSub, Int.reduceMul, Int.reduceEq, Int.reduceNe, arith, keepT, Nat.reduceBEq, eb0, g1, g2, g3, g4, hi'] <;> simp [AV.clean, cleanAll, encFn]
        · rw [htake]; simp [keepT, wpL, wpO, stepL, pureStep, reduceIte, reduceCtorEq, Nat.reduceEqDiff, Nat.reduceAdd, Nat.reduceLT, Nat.reduceLeDiff, Nat.reduceMul, Nat.reduceSub, Int.reduceLE, Int.reduceLT, Int.reduceToNat, Int.reduceAdd, Int.reduceSub, Int.reduceMul, Int.reduceEq, Int.reduceNe, arith, keepT, Nat.reduceBEq, eb0]
        · rw [htake]; rfl
      · have hop : ¬ x.op = 1 := by simpa using he
        rw [if_neg hop, List.append_nil] at htake
        refine LCB.skip ?_
        simp only
        refine ⟨_, Weak.cut [5, 14, 15, 18, 19, 20] 1 (by omega) hcl (Clean.cons (vec_clean_map encI (fun _ => rfl) _) Clean.nil) (fun n hn => ?_), hi', g1, g2, g3, g4, ?_, ?_⟩
        · simp only [List.mem_cons, List.not_mem_nil, or_false] at hn
          rcases hn with rfl | rfl | rfl | rfl | rfl | rfl <;> simp only [wpL, wpO, stepL, pureStep, reduceIte, reduceCtorEq, Nat.reduceEqDiff, Nat.reduceAdd, Nat.reduceLT, Nat.reduceLeDiff, Nat.reduceMul, Nat.reduceSub, Int.reduceLE, Int.reduceLT, Int.reduceToNat, Int.reduceAdd, Int.reduceSub, Int.reduceMul, Int.reduceEq, Int.reduceNe, arith, keepT, Nat.reduceBEq, eb0, g1, g2, g3, g4, g5, hi'] <;> simp [AV.clean, cleanAll, encFn]
        · rw [htake]; exact g5
        · rw [htake]; rfl
    · rintro t H' ⟨g1, g2, g3, g4, g5, g6⟩
      simp only at g1 g2 g3 g4 g5 g6
      subst g6
      rw [List.take_length] at g5 ⊢
      refine ⟨_, Weak.refl _ _ _, g2, g1, ?_, ?_⟩
      · rw [hstep]; exact g5
      · rw [hstep]
  · rintro t H' ⟨h1, h2, h3⟩
    simp only at h1 h2 h3
    subst h3
    have e2 : constsTo (f.take 200) (g.take 200) 2 = constsOf (f.take 200) ++ constsOf (g.take 200) := by simp [constsTo]
    rw [e2] at h2 ⊢
    refine LCB.seq (LCB.text ?_)
    simp only [wpL, wpO, stepL, pureStep, reduceIte, reduceCtorEq, Nat.reduceEqDiff, Nat.reduceAdd, Nat.reduceLT, Nat.reduceLeDiff, Nat.reduceMul, Nat.reduceSub, Int.reduceLE, Int.reduceLT, Int.reduceToNat, Int.reduceAdd, Int.reduceSub, Int.reduceMul, Int.reduceEq, Int.reduceNe, arith, keepT, Nat.reduceBEq, eb0, h2]
    exact LCB.ret ⟨.inr rfl, RetOk.pure hcl rfl (View.own0 encI _ rfl rfl fun _ => rfl) ⟨rfl, rfl⟩⟩
theorem take_len (f : List Ins) : (f.take 200).length ≤ 200 := by simp; omega
theorem cand_many_ok (f g : List Ins) : Pure Tryd.prog 30 [encFn f, encFn g] (.int .i64 (((f.take 200).length + (g.take 200).length : Nat) : Int)) := by
  intro H
  refine ACalls.low cand_many.low (by simp) fun hcl => ?_
  have h1 := take_len f
  have h2 := take_len g
  unfold cand_many.lc
  refine LCB.seq (LCB.text ?_)
  simp only [wpL, wpO, stepL, pureStep, reduceIte, reduceCtorEq, Nat.reduceEqDiff, Nat.reduceAdd, Nat.reduceLT, Nat.reduceLeDiff, Nat.reduceMul, Nat.reduceSub, Int.reduceLE, Int.reduceLT, Int.reduceToNat, Int.reduceAdd, Int.reduceSub, Int.reduceMul, Int.reduceEq, Int.reduceNe, arith, keepT, Nat.reduceBEq, eb0]
  refine LCB.seq (LCB.text (wpL_at 2 fun K hK => ?_))
  simp only [wpL, wpO, stepL, pureStep, reduceIte, reduceCtorEq, Nat.reduceEqDiff, Nat.reduceAdd, Nat.reduceLT, Nat.reduceLeDiff, Nat.reduceMul, Nat.reduceSub, Int.reduceLE, Int.reduceLT, Int.reduceToNat, Int.reduceAdd, Int.reduceSub, Int.reduceMul, Int.reduceEq, Int.reduceNe, arith, keepT, Nat.reduceBEq, eb0, rowOf, partA, cellsOf, allCells, AV.cell, putRow, fillA, fillRows, appendL, elems, rowsOk, eb1]
  refine ACalls.pure (cand_head_ok f) (hK _ (wpL_at 3 fun K2 hK2 => ?_))
  clear hK
  simp only [wpL, wpO, stepL, pureStep, reduceIte, reduceCtorEq, Nat.reduceEqDiff, Nat.reduceAdd, Nat.reduceLT, Nat.reduceLeDiff, Nat.reduceMul, Nat.reduceSub, Int.reduceLE, Int.reduceLT, Int.reduceToNat, Int.reduceAdd, Int.reduceSub, Int.reduceMul, Int.reduceEq, Int.reduceNe, arith, keepT, Nat.reduceBEq, eb0, rowOf, partA, cellsOf, allCells, AV.cell, putRow, fillA, fillRows, appendL, elems, rowsOk, eb1, encFn]
  refine ACalls.pure (cand_head_ok g) (hK2 _ ?_)
  clear hK2
  simp only [wpL, wpO, stepL, pureStep, reduceIte, reduceCtorEq, Nat.reduceEqDiff, Nat.reduceAdd, Nat.reduceLT, Nat.reduceLeDiff, Nat.reduceMul, Nat.reduceSub, Int.reduceLE, Int.reduceLT, Int.reduceToNat, Int.reduceAdd, Int.reduceSub, Int.reduceMul, Int.reduceEq, Int.reduceNe, arith, keepT, Nat.reduceBEq, eb0, rowOf, partA, cellsOf, allCells, AV.cell, putRow, fillA, fillRows, appendL, elems, rowsOk, eb1, encFn]
  refine LCB.ret ⟨.inr rfl, RetOk.pure0 hcl rfl (.same _ rfl) ⟨?_, rfl⟩⟩
  simp only [wpL, wpO, stepL, pureStep, reduceIte, reduceCtorEq, Nat.reduceEqDiff, Nat.reduceAdd, Nat.reduceLT, Nat.reduceLeDiff, Nat.reduceMul, Nat.reduceSub, Int.reduceLE, Int.reduceLT, Int.reduceToNat, Int.reduceAdd, Int.reduceSub, Int.reduceMul, Int.reduceEq, Int.reduceNe, arith, keepT, Nat.reduceBEq, eb0, resV]
  rw [wrap_i64_in (by omega) (by omega)]
  simp
end Go.Proofs.YtnbdpjhmepgoaaaDoor
